/- Right tables: full decompositions, compositions; numbers beyond. No program in sight. -/
import Derived.Test.YthneeainigdmhaaGreatK36
set_option linter.unusedVariables false
set_option linter.unusedSimpArgs false
namespace Go.Proofs.YthneeainigdmhaaGreat.M
open Go.RowKit
set_option maxHeartbeats 8000000

/-- What it looks like. -/
def looksF (T : List Rec) (c : Int) : List Int := match findR T 8 c with | some r => r.to | none => [c]
/-- Whether it may compose with one ahead of it. -/
def secondF (T : List Rec) (c : Int) : Bool := jv c || jt c || T.any (fun x => decide (x.kind = 7) && decide (rd x.to 1 = c))
/-- Its script's name. -/
def scriptF (T : List Rec) (c : Int) : ByteArray := match findR T 7 c with | some r => r.name | none => ⟨#[]⟩
theorem Fine.wrong0 {T : List Rec} (hF : Fine T) {i : Nat} {x : Rec} (hx : T[i]? = some x) : wrongE T x = 0 := by
  have h0 := hF.recs i (List.getElem?_eq_some_iff.1 hx).1
  rcases Int.decEq (wrongE T x) 0 with h | h
  · rw [recordE_wrong hx h] at h0
    exact h0
  · exact h
theorem Fine.upper {T : List Rec} (hF : Fine T) {x : Rec} (hx : x ∈ T) (hf : fam x.kind = 2 ∨ fam x.kind = 3) : 128 ≤ x.lo ∧ hangulB x = false := by
  obtain ⟨i, hi⟩ := List.mem_iff_getElem?.1 hx
  have hw := hF.wrong0 hi
  have hl0 : ¬ x.lo < 128 := fun h => by rw [wrongE_base hf h] at hw; exact absurd hw (by decide)
  refine ⟨by omega, ?_⟩
  cases hh : hangulB x with
  | false => rfl
  | true => rw [wrongE_hangul hf hl0 hh] at hw; exact absurd hw (by decide)
theorem hit_span {f c : Int} {x : Rec} (h : hitB f c x = true) : fam x.kind = f ∧ 0 ≤ c ∧ c ≤ 1114111 ∧ x.lo ≤ c ∧ c ≤ x.hi := by
  unfold hitB speaksB at h
  simp only [Bool.and_eq_true, decide_eq_true_eq] at h
  exact ⟨h.1, h.2.1.1.1.1, h.2.1.1.1.2, h.2.1.1.2, h.2.1.2⟩
/-- What is reckoned is not said. -/
theorem Fine.no_hangul {T : List Rec} (hF : Fine T) {f c : Int} (hf : f = 2 ∨ f = 3) (hc : syl c = true ∨ jl c = true ∨ jv c = true ∨ jt c = true) : findR T f c = none := by
  cases h : findR T f c with
  | none => rfl
  | some x =>
    exfalso
    obtain ⟨h1, h2⟩ := findR_some h
    obtain ⟨h3, h4, h5, h6, h7⟩ := hit_span h2
    have h8 := (hF.upper h1 (by rw [h3]; exact hf)).2
    unfold hangulB coversB at h8
    simp only [Bool.or_eq_false_iff, Bool.and_eq_false_iff, decide_eq_false_iff_not] at h8
    simp only [syl, jl, jv, jt, Bool.and_eq_true, decide_eq_true_eq] at hc
    omega
theorem open_jamo {T : List Rec} (hF : Fine T) {c : Int} (hc : jl c = true ∨ jv c = true ∨ jt c = true) : openF T c = [] := by
  have hs : syl c = false := by
    cases h : syl c with
    | false => rfl
    | true => simp only [syl, jl, jv, jt, Bool.and_eq_true, decide_eq_true_eq] at hc h; omega
  unfold openF
  rw [hs, hF.no_hangul (.inr rfl) (.inr hc)]
  rfl
theorem open_syl (T : List Rec) {c : Int} (h : syl c = true) : openF T c = [sylA c, sylB c] := by
  unfold openF
  rw [h]
  rfl
theorem full_none {T : List Rec} {c : Int} (h : openF T c = []) : fullF T c = .ok [c] := by
  unfold fullF
  rw [walkF_nil h]
  rfl
/-- The full decomposition of a syllable. -/
def sylL (c : Int) : List Int := [4352 + (c - 44032) / 28 / 21, 4449 + (c - 44032) / 28 % 21] ++ (if 0 < (c - 44032) % 28 then [4519 + (c - 44032) % 28] else [])
theorem walk_lv {T : List Rec} (hF : Fine T) {c : Int} (hs : syl c = true) (hr : (c - 44032) % 28 = 0) (fuel : Nat) (way : List Int) (hw : c ∉ way) (hf : fuel ≥ 1) : walkF T fuel c way [] = .ok [4352 + (c - 44032) / 588, 4449 + (c - 44032) / 28 % 21] := by
  have h1 := syl_iff hs
  obtain ⟨g, rfl⟩ : ∃ g, fuel = g + 1 := ⟨fuel - 1, by omega⟩
  rw [walkF_step (by rw [open_syl T hs]; simp) hw, open_syl T hs]
  have e1 : sylA c = 4352 + (c - 44032) / 588 := by unfold sylA; rw [if_pos hr]
  have e2 : sylB c = 4449 + (c - 44032) / 28 % 21 := by unfold sylB; rw [if_pos hr]
  have o1 : openF T (4352 + (c - 44032) / 588) = [] := open_jamo hF (.inl (by simp [jl]; omega))
  have o2 : openF T (4449 + (c - 44032) / 28 % 21) = [] := open_jamo hF (.inr (.inl (by simp [jv]; omega)))
  rw [e1, e2]
  simp only [List.foldlM_cons, List.foldlM_nil, walkF_nil o1, walkF_nil o2]
  rfl
theorem full_syl {T : List Rec} (hF : Fine T) {c : Int} (hs : syl c = true) : fullF T c = .ok (sylL c) := by
  have h1 := syl_iff hs
  unfold fullF sylL
  by_cases hr : (c - 44032) % 28 = 0
  · rw [walk_lv hF hs hr 16 [] (by simp) (by decide), if_neg (by omega), Int.ediv_ediv_of_nonneg (by decide)]
    rfl
  · rw [walkF_step (by rw [open_syl T hs]; simp) (by simp), open_syl T hs]
    have e1 : sylA c = c - (c - 44032) % 28 := by unfold sylA; rw [if_neg hr]
    have e2 : sylB c = 4519 + (c - 44032) % 28 := by unfold sylB; rw [if_neg hr]
    have o2 : openF T (4519 + (c - 44032) % 28) = [] := open_jamo hF (.inr (.inr (by simp [jt]; omega)))
    have hs2 : syl (c - (c - 44032) % 28) = true := by simp [syl]; omega
    rw [e1, e2, if_pos (by omega)]
    have hw := walk_lv hF hs2 (by omega) 15 ([] ++ [c]) (by simp; omega) (by decide)
    rw [show (c - (c - 44032) % 28 - 44032) / 588 = (c - 44032) / 28 / 21 by omega, show (c - (c - 44032) % 28 - 44032) / 28 % 21 = (c - 44032) / 28 % 21 by omega] at hw
    simp only [List.foldlM_cons, List.foldlM_nil, hw, walkF_nil o2]
    rfl
theorem dec_lo {T : List Rec} (hG : Good T) {c : Int} {x : Rec} (h : findR T 3 c = some x) : x.lo = c ∧ x.kind ≠ 4 ∧ (x.kind = 7 ∨ x.kind = 8) := by
  obtain ⟨h1, h2⟩ := findR_some h
  obtain ⟨h3, h4, h5, h6, h7⟩ := hit_span h2
  have hR := hG.right x h1
  have hk : x.kind = 7 ∨ x.kind = 8 := by
    have hk := hR.kind
    generalize x.kind = q at hk h3
    rcases fam_cases hk.1 hk.2 with rfl | rfl | rfl | rfl | rfl | rfl | rfl | rfl | rfl | rfl | rfl | rfl | rfl | rfl | rfl <;> first | omega | (exfalso; revert h3; decide)
  have := hR.oneOf (by omega)
  exact ⟨by omega, by omega, hk⟩
/-- The full decomposition is there for every number. -/
theorem Fine.full {T : List Rec} (hF : Fine T) (c : Int) : fullF T c = .ok (fullL T c) := by
  have key : ∃ l, fullF T c = .ok l := by
    cases hs : syl c with
    | true => exact ⟨_, full_syl hF hs⟩
    | false =>
      cases hf : findR T 3 c with
      | none => exact ⟨[c], full_none (by unfold openF; rw [hs, hf]; rfl)⟩
      | some x =>
        obtain ⟨h1, h2⟩ := findR_some hf
        obtain ⟨i, hi⟩ := List.mem_iff_getElem?.1 h1
        have := hF.full_ok hi (hit_span h2).1
        rwa [(dec_lo hF.toGood hf).1] at this
  obtain ⟨l, hl⟩ := key
  unfold fullL
  rw [hl]
/-- What comes out of a walk opens no more. -/
theorem walkF_shut {T : List Rec} : ∀ (fuel : Nat) (d : Int) (way out l : List Int), (∀ z ∈ out, openF T z = []) → walkF T fuel d way out = .ok l → (∀ z ∈ l, openF T z = []) ∧ out.length < l.length := by
  have leaf : ∀ (fuel : Nat) (d : Int) (way out l : List Int), openF T d = [] → (∀ z ∈ out, openF T z = []) → walkF T fuel d way out = .ok l → (∀ z ∈ l, openF T z = []) ∧ out.length < l.length := by
    intro fuel d way out l ho hout h
    rw [walkF_nil ho] at h
    split at h
    · cases h
    · injection h with h
      subst h
      refine ⟨fun z hz => ?_, by simp⟩
      rcases List.mem_append.1 hz with hz | hz
      · exact hout z hz
      · rw [List.mem_singleton.1 hz]; exact ho
  intro fuel
  induction fuel with
  | zero =>
    intro d way out l hout h
    by_cases ho : openF T d = []
    · exact leaf _ _ _ _ _ ho hout h
    · by_cases hw : d ∈ way
      · rw [walkF_loop ho hw] at h; cases h
      · rw [walkF_deep ho hw] at h; cases h
  | succ fuel ih =>
    intro d way out l hout h
    by_cases ho : openF T d = []
    · exact leaf _ _ _ _ _ ho hout h
    · by_cases hw : d ∈ way
      · rw [walkF_loop ho hw] at h; cases h
      · rw [walkF_step ho hw] at h
        have fold : ∀ (ts out l : List Int), (∀ z ∈ out, openF T z = []) → ts.foldlM (fun o t => walkF T fuel t (way ++ [d]) o) out = .ok l → (∀ z ∈ l, openF T z = []) ∧ out.length ≤ l.length ∧ (ts ≠ [] → out.length < l.length) := by
          intro ts
          induction ts with
          | nil =>
            intro out l hout h
            injection h with h
            subst h
            exact ⟨hout, Nat.le_refl _, fun h => absurd rfl h⟩
          | cons t ts ih2 =>
            intro out l hout h
            rw [List.foldlM_cons] at h
            cases h1 : walkF T fuel t (way ++ [d]) out with
            | error e => rw [h1] at h; cases h
            | ok o =>
              rw [h1] at h
              obtain ⟨a1, a2⟩ := ih t _ _ _ hout h1
              obtain ⟨b1, b2, b3⟩ := ih2 o l a1 h
              exact ⟨b1, by omega, fun _ => by omega⟩
        obtain ⟨c1, c2, c3⟩ := fold _ _ _ hout h
        exact ⟨c1, c3 ho⟩
theorem Fine.full_shut {T : List Rec} (hF : Fine T) (c : Int) : (∀ z ∈ fullL T c, openF T z = []) ∧ fullL T c ≠ [] := by
  have h := walkF_shut 16 c [] [] _ (fun z hz => by cases hz) (hF.full c)
  refine ⟨h.1, fun e => ?_⟩
  have := h.2
  rw [e] at this
  exact absurd this (Nat.lt_irrefl _)
/-! ### numbers beyond -/
theorem beyond_pred {c : Int} (h : c < 0 ∨ 1114111 < c) : syl c = false ∧ jl c = false ∧ jv c = false ∧ jt c = false := by
  refine ⟨?_, ?_, ?_, ?_⟩ <;> (simp only [syl, jl, jv, jt, Bool.and_eq_false_iff, decide_eq_false_iff_not]; omega)
theorem beyond_full {T : List Rec} {c : Int} (h : c < 0 ∨ 1114111 < c) : openF T c = [] ∧ fullF T c = .ok [c] := by
  have ho : openF T c = [] := by
    unfold openF
    rw [(beyond_pred h).1, findR_out h]
    rfl
  exact ⟨ho, full_none ho⟩
theorem beyond_looks {T : List Rec} {c : Int} (h : c < 0 ∨ 1114111 < c) : looksF T c = [c] ∧ scriptF T c = ⟨#[]⟩ := by
  unfold looksF scriptF
  rw [findR_out h, findR_out h]
  exact ⟨rfl, rfl⟩
theorem right_pair {T : List Rec} (hG : Good T) {x : Rec} (hx : x ∈ T) (hk : x.kind = 7) : x.to.length = 2 ∧ (0 ≤ rd x.to 0 ∧ rd x.to 0 ≤ 1114111) ∧ (0 ≤ rd x.to 1 ∧ rd x.to 1 ≤ 1114111) := by
  have hR := hG.right x hx
  have hf := hR.fits
  unfold fitsB at hf
  simp [hk, listB] at hf
  have hlen : x.to.length = 2 := by omega
  obtain ⟨a, b, hab⟩ : ∃ a b, x.to = [a, b] := by
    match hto : x.to with
    | [a, b] => exact ⟨a, b, rfl⟩
    | [] => rw [hto] at hlen; simp at hlen
    | [a] => rw [hto] at hlen; simp at hlen
    | a :: b :: c :: r => rw [hto] at hlen; simp at hlen
  have hv : validB a = true ∧ validB b = true := by
    have := hf.2.2.2
    rw [hab] at this
    simpa using this
  rw [hab]
  simp only [validB, Bool.and_eq_true, decide_eq_true_eq] at hv
  exact ⟨rfl, ⟨hv.1.1.1, hv.1.1.2⟩, ⟨hv.2.1.1, hv.2.1.2⟩⟩
theorem beyond_comp {T : List Rec} (hG : Good T) {c b : Int} (h : c < 0 ∨ 1114111 < c) : (compF T c b).2 = false ∧ (compF T b c).2 = false ∧ secondF T c = false := by
  obtain ⟨h1, h2, h3, h4⟩ := beyond_pred h
  have hp : ∀ a, T.find? (pairAt c a) = none ∧ T.find? (pairAt a c) = none := fun a => by
    constructor
    · rw [List.find?_eq_none]
      intro x hx hp
      unfold pairAt at hp
      simp only [Bool.and_eq_true, decide_eq_true_eq] at hp
      have := right_pair hG hx (by omega)
      omega
    · rw [List.find?_eq_none]
      intro x hx hp
      unfold pairAt at hp
      simp only [Bool.and_eq_true, decide_eq_true_eq] at hp
      have := right_pair hG hx (by omega)
      omega
  refine ⟨?_, ?_, ?_⟩
  · unfold compF
    rw [h2, h1, (hp b).1]
    simp
  · unfold compF
    rw [h3, h4, (hp b).2]
    simp
  · unfold secondF
    rw [h3, h4]
    simp only [Bool.false_or]
    refine List.any_eq_false.2 fun x hx hp => ?_
    simp only [Bool.and_eq_true, decide_eq_true_eq] at hp
    have := right_pair hG hx hp.1
    omega
end Go.Proofs.YthneeainigdmhaaGreat.M
