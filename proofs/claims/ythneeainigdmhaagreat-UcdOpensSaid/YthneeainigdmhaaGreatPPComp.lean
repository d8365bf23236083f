/- Right tables: what two compose to. No program in sight. -/
import Derived.Test.YthneeainigdmhaaGreatPPFull
set_option linter.unusedVariables false
set_option linter.unusedSimpArgs false
namespace Go.Proofs.YthneeainigdmhaaGreat.M
open Go.RowKit
set_option maxHeartbeats 8000000

theorem Fine.pair_right {T : List Rec} (hF : Fine T) {x : Rec} (hx : x ∈ T) (hk : x.kind = 7) : pairsB T x = true := by
  obtain ⟨i, hi⟩ := List.mem_iff_getElem?.1 hx
  have hf : fam x.kind = 3 := by rw [hk]; rfl
  have hw := hF.wrong0 hi
  obtain ⟨h1, h2⟩ := hF.upper hx (.inr hf)
  have hl := hF.full x.lo
  cases hfl : fallsB T (fullL T x.lo) with
  | true => rw [wrongE_falls hf (by omega) h2 hl hfl] at hw; exact absurd hw (by decide)
  | false =>
    cases hp : pairsB T x with
    | true => rfl
    | false => rw [wrongE_pair hf (by omega) h2 hl hfl hk hp] at hw; exact absurd hw (by decide)
theorem pairAt_iff {a b : Int} {x : Rec} (h : pairAt a b x = true) : x.kind = 7 ∧ rd x.to 0 = a ∧ rd x.to 1 = b := by
  unfold pairAt at h
  simp only [Bool.and_eq_true, decide_eq_true_eq] at h
  exact ⟨h.1.1, h.1.2, h.2⟩
theorem pair_of {l : List Int} (h : l.length = 2) : l = [rd l 0, rd l 1] := by
  match l, h with
  | [a, b], _ => rfl
theorem not_syl_of {x : Rec} (h : hangulB x = false) (h1 : x.lo = x.hi) : syl x.lo = false := by
  unfold hangulB coversB at h
  simp only [Bool.or_eq_false_iff, Bool.and_eq_false_iff, decide_eq_false_iff_not] at h
  simp only [syl, Bool.and_eq_false_iff, decide_eq_false_iff_not]
  omega
/-- What two compose to opens to these two; .. (9.3). -/
theorem comp_yes {T : List Rec} (hF : Fine T) {a b p : Int} (h : compF T a b = (p, true)) :
    openF T p = [a, b] ∧ secondF T b = true ∧ numF T 2 (·.n) p = 0 ∧ numF T 2 (·.n) a = 0 := by
  unfold compF at h
  split at h
  · rename_i hc
    injection h with h _
    simp only [Bool.and_eq_true] at hc
    obtain ⟨ha, hb⟩ := hc
    have h1 : 4352 ≤ a ∧ a ≤ 4370 := by simpa [jl] using ha
    have h2 : 4449 ≤ b ∧ b ≤ 4469 := by simpa [jv] using hb
    have hs : syl p = true := by simp [syl]; omega
    refine ⟨?_, ?_, ?_, ?_⟩
    · rw [open_syl T hs]
      unfold sylA sylB
      rw [if_pos (by omega), if_pos (by omega)]
      congr 1
      · omega
      · congr 1
        omega
    · unfold secondF
      rw [hb]
      rfl
    · unfold numF
      rw [hF.no_hangul (.inl rfl) (.inl hs)]
    · unfold numF
      rw [hF.no_hangul (.inl rfl) (.inr (.inl ha))]
  · split at h
    · rename_i hc
      injection h with h _
      simp only [Bool.and_eq_true, decide_eq_true_eq] at hc
      obtain ⟨⟨ha, hr⟩, hb⟩ := hc
      have h1 := syl_iff ha
      have h2 : 4520 ≤ b ∧ b ≤ 4546 := by simpa [jt] using hb
      have hs : syl p = true := by simp [syl]; omega
      refine ⟨?_, ?_, ?_, ?_⟩
      · rw [open_syl T hs]
        unfold sylA sylB
        rw [if_neg (by omega), if_neg (by omega)]
        congr 1
        · omega
        · congr 1
          omega
      · unfold secondF
        rw [hb]
        cases jv b <;> rfl
      · unfold numF
        rw [hF.no_hangul (.inl rfl) (.inl hs)]
      · unfold numF
        rw [hF.no_hangul (.inl rfl) (.inl ha)]
    · split at h
      · rename_i x hx
        injection h with h _
        have hm := List.mem_of_find?_eq_some hx
        obtain ⟨h7, h8, h9⟩ := pairAt_iff (List.find?_some hx)
        have hf : fam x.kind = 3 := by rw [h7]; rfl
        have hR := hF.right x hm
        have hlo := hR.oneOf (by omega)
        have hh := (hF.upper hm (.inr hf)).2
        have hp := hF.pair_right hm h7
        unfold pairsB at hp
        simp only [Bool.and_eq_true, decide_eq_true_eq] at hp
        obtain ⟨i, hi⟩ := List.mem_iff_getElem?.1 hm
        have hfind : findR T 3 x.lo = some x := hF.find_at hi (by rw [hit_point hR hlo (by omega) hf]; exact decide_eq_true rfl) (by decide)
        have h2 := pair_of (right_pair hF.toGood hm h7).1
        rw [h8, h9] at h2
        subst h
        refine ⟨?_, ?_, hp.1.1.1.1.1, ?_⟩
        · unfold openF
          rw [not_syl_of hh hlo, hfind]
          exact h2
        · unfold secondF
          have : T.any (fun x => decide (x.kind = 7) && decide (rd x.to 1 = b)) = true := List.any_eq_true.2 ⟨x, hm, by simp [h7, h9]⟩
          rw [this]
          cases jv b <;> cases jt b <;> rfl
        · rw [← h8]
          exact hp.1.1.1.1.2
      · injection h with _ h
        cases h
end Go.Proofs.YthneeainigdmhaaGreat.M
