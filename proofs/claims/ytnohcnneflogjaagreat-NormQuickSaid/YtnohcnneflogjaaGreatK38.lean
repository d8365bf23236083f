/- Right tables: full decompositions, compositions; numbers beyond. No program in sight. -/
import Derived.Test.YtnohcnneflogjaaGreatK36
import Derived.Test.YtnohcnneflogjaaGreatK01
import Derived.Test.YtnohcnneflogjaaGreatK32
import Derived.Test.YtnohcnneflogjaaGreatK35
set_option maxHeartbeats 8000000
set_option maxRecDepth 100000
set_option linter.unusedVariables false
set_option linter.unusedSimpArgs false
namespace Go.Proofs.YtnohcnneflogjaaGreat.M
open Go.RowKit
def looksF (T : List Rec) (c : Int) : List Int := match findR T 8 c with | some r => r.to | none => [c]
def secondF (T : List Rec) (c : Int) : Bool := jv c || jt c || T.any (fun x => decide (x.kind = 7) && decide (rd x.to 1 = c))
def scriptF (T : List Rec) (c : Int) : ByteArray := match findR T 7 c with | some r => r.name | none => ⟨#[]⟩
theorem Fine.wrong0 {T : List Rec} (hF : Fine T) {i : Nat} {x : Rec} (hx : T[i]? = some x) : wrongE T x = 0 := by
 have h0 := hF.recs i (List.getElem?_eq_some_iff.1 hx).1
 rcases Int.decEq (wrongE T x) 0 with h | h
 ·rw [recordE_wrong hx h] at h0
  exact h0
 ·exact h
theorem Fine.upper {T : List Rec} (hF : Fine T) {x : Rec} (hx : x ∈ T) (hf : fam x.kind = 2 ∨ fam x.kind = 3) : 128 ≤ x.lo ∧ hangulB x = false := by
 obtain ⟨i, hi⟩ := List.mem_iff_getElem?.1 hx
 have hw := hF.wrong0 hi
 have hl0 : ¬ x.lo < 128 := fun h => by rw [wrongE_base hf h] at hw; exact absurd hw (by decide)
 refine ⟨by omega, ?_⟩
 cases hh : hangulB x with
 | false => rfl
 | true => rw [wrongE_hangul hf hl0 hh] at hw; exact absurd hw (by decide)
theorem hit_span {f c : Int} {x : Rec} (h : hitB f c x = true) : fam x.kind = f ∧ 0 ≤ c ∧ c ≤ 1114111 ∧ x.lo ≤ c ∧ c ≤ x.hi := by
 unfold hitB speaksB at h
 simp only [Bool.and_eq_true, decide_eq_true_eq] at h
 exact ⟨h.1, h.2.1.1.1.1, h.2.1.1.1.2, h.2.1.1.2, h.2.1.2⟩
theorem Fine.no_hangul {T : List Rec} (hF : Fine T) {f c : Int} (hf : f = 2 ∨ f = 3) (hc : syl c = true ∨ jl c = true ∨ jv c = true ∨ jt c = true) : findR T f c = none := by
 cases h : findR T f c with
 | none => rfl
 | some x =>
   exfalso
   obtain ⟨h1, h2⟩ := findR_some h
   obtain ⟨h3, h4, h5, h6, h7⟩ := hit_span h2
   have h8 := (hF.upper h1 (by rw [h3]; exact hf)).2
   unfold hangulB coversB at h8
   simp only [Bool.or_eq_false_iff, Bool.and_eq_false_iff, decide_eq_false_iff_not] at h8
   simp only [syl, jl, jv, jt, Bool.and_eq_true, decide_eq_true_eq] at hc
   omega
theorem open_jamo {T : List Rec} (hF : Fine T) {c : Int} (hc : jl c = true ∨ jv c = true ∨ jt c = true) : openF T c = [] := by
 have hs : syl c = false := by
  cases h : syl c with
  | false => rfl
  | true => simp only [syl, jl, jv, jt, Bool.and_eq_true, decide_eq_true_eq] at hc h; omega
 unfold openF
 rw [hs, hF.no_hangul (.inr rfl) (.inr hc)]
 rfl
theorem open_syl (T : List Rec) {c : Int} (h : syl c = true) : openF T c = [sylA c, sylB c] := by
 unfold openF
 rw [h]
 rfl
theorem full_none {T : List Rec} {c : Int} (h : openF T c = []) : fullF T c = .ok [c] := by
 unfold fullF
 rw [walkF_nil h]
 rfl
def sylL (c : Int) : List Int := [4352 + (c - 44032) / 28 / 21, 4449 + (c - 44032) / 28 % 21] ++ (if 0 < (c - 44032) % 28 then [4519 + (c - 44032) % 28] else [])
theorem walk_lv {T : List Rec} (hF : Fine T) {c : Int} (hs : syl c = true) (hr : (c - 44032) % 28 = 0) (fuel : Nat) (way : List Int) (hw : c ∉ way) (hf : fuel ≥ 1) : walkF T fuel c way [] = .ok [4352 + (c - 44032) / 588, 4449 + (c - 44032) / 28 % 21] := by
 have h1 := syl_iff hs
 obtain ⟨g, rfl⟩ : ∃ g, fuel = g + 1 := ⟨fuel - 1, by omega⟩
 rw [walkF_step (by rw [open_syl T hs]; simp) hw, open_syl T hs]
 have e1 : sylA c = 4352 + (c - 44032) / 588 := by unfold sylA; rw [if_pos hr]
 have e2 : sylB c = 4449 + (c - 44032) / 28 % 21 := by unfold sylB; rw [if_pos hr]
 have o1 : openF T (4352 + (c - 44032) / 588) = [] := open_jamo hF (.inl (by simp [jl]; omega))
 have o2 : openF T (4449 + (c - 44032) / 28 % 21) = [] := open_jamo hF (.inr (.inl (by simp [jv]; omega)))
 rw [e1, e2]
 simp only [List.foldlM_cons, List.foldlM_nil, walkF_nil o1, walkF_nil o2]
 rfl
theorem full_syl {T : List Rec} (hF : Fine T) {c : Int} (hs : syl c = true) : fullF T c = .ok (sylL c) := by
 have h1 := syl_iff hs
 unfold fullF sylL
 by_cases hr : (c - 44032) % 28 = 0
 ·rw [walk_lv hF hs hr 16 [] (by simp) (by decide), if_neg (by omega), Int.ediv_ediv_of_nonneg (by decide)]
  rfl
 ·rw [walkF_step (by rw [open_syl T hs]; simp) (by simp), open_syl T hs]
  have e1 : sylA c = c - (c - 44032) % 28 := by unfold sylA; rw [if_neg hr]
  have e2 : sylB c = 4519 + (c - 44032) % 28 := by unfold sylB; rw [if_neg hr]
  have o2 : openF T (4519 + (c - 44032) % 28) = [] := open_jamo hF (.inr (.inr (by simp [jt]; omega)))
  have hs2 : syl (c - (c - 44032) % 28) = true := by simp [syl]; omega
  rw [e1, e2, if_pos (by omega)]
  have hw := walk_lv hF hs2 (by omega) 15 ([] ++ [c]) (by simp; omega) (by decide)
  rw [show (c - (c - 44032) % 28 - 44032) / 588 = (c - 44032) / 28 / 21 by omega, show (c - (c - 44032) % 28 - 44032) / 28 % 21 = (c - 44032) / 28 % 21 by omega] at hw
  simp only [List.foldlM_cons, List.foldlM_nil, hw, walkF_nil o2]
  rfl
theorem dec_lo {T : List Rec} (hG : Good T) {c : Int} {x : Rec} (h : findR T 3 c = some x) : x.lo = c ∧ x.kind ≠ 4 ∧ (x.kind = 7 ∨ x.kind = 8) := by
 obtain ⟨h1, h2⟩ := findR_some h
 obtain ⟨h3, h4, h5, h6, h7⟩ := hit_span h2
 have hR := hG.right x h1
 have hk : x.kind = 7 ∨ x.kind = 8 := by
  have hk := hR.kind
  generalize x.kind = q at hk h3
  rcases fam_cases hk.1 hk.2 with rfl | rfl | rfl | rfl | rfl | rfl | rfl | rfl | rfl | rfl | rfl | rfl | rfl | rfl | rfl <;> first | omega | (exfalso; revert h3; decide)
 have := hR.oneOf (by omega)
 exact ⟨by omega, by omega, hk⟩
theorem Fine.full {T : List Rec} (hF : Fine T) (c : Int) : fullF T c = .ok (fullL T c) := by
 have key : ∃ l, fullF T c = .ok l := by
  cases hs : syl c with
  | true => exact ⟨_, full_syl hF hs⟩
  | false =>
    cases hf : findR T 3 c with
    | none => exact ⟨[c], full_none (by unfold openF; rw [hs, hf]; rfl)⟩
    | some x =>
      obtain ⟨h1, h2⟩ := findR_some hf
      obtain ⟨i, hi⟩ := List.mem_iff_getElem?.1 h1
      have := hF.full_ok hi (hit_span h2).1
      rwa [(dec_lo hF.toGood hf).1] at this
 obtain ⟨l, hl⟩ := key
 unfold fullL
 rw [hl]
theorem walkF_shut {T : List Rec} : ∀ (fuel : Nat) (d : Int) (way out l : List Int), (∀ z ∈ out, openF T z = []) → walkF T fuel d way out = .ok l → (∀ z ∈ l, openF T z = []) ∧ out.length < l.length := by
 have leaf : ∀ (fuel : Nat) (d : Int) (way out l : List Int), openF T d = [] → (∀ z ∈ out, openF T z = []) → walkF T fuel d way out = .ok l → (∀ z ∈ l, openF T z = []) ∧ out.length < l.length := by
  intro fuel d way out l ho hout h
  rw [walkF_nil ho] at h
  split at h
  ·cases h
  ·injection h with h
   subst h
   refine ⟨fun z hz => ?_, by simp⟩
   rcases List.mem_append.1 hz with hz | hz
   ·exact hout z hz
   ·rw [List.mem_singleton.1 hz]; exact ho
 intro fuel
 induction fuel with
 | zero =>
   intro d way out l hout h
   by_cases ho : openF T d = []
   ·exact leaf _ _ _ _ _ ho hout h
   ·by_cases hw : d ∈ way
    ·rw [walkF_loop ho hw] at h; cases h
    ·rw [walkF_deep ho hw] at h; cases h
 | succ fuel ih =>
   intro d way out l hout h
   by_cases ho : openF T d = []
   ·exact leaf _ _ _ _ _ ho hout h
   ·by_cases hw : d ∈ way
    ·rw [walkF_loop ho hw] at h; cases h
    ·rw [walkF_step ho hw] at h
     have fold : ∀ (ts out l : List Int), (∀ z ∈ out, openF T z = []) → ts.foldlM (fun o t => walkF T fuel t (way ++ [d]) o) out = .ok l → (∀ z ∈ l, openF T z = []) ∧ out.length ≤ l.length ∧ (ts ≠ [] → out.length < l.length) := by
      intro ts
      induction ts with
      | nil =>
        intro out l hout h
        injection h with h
        subst h
        exact ⟨hout, Nat.le_refl _, fun h => absurd rfl h⟩
      | cons t ts ih2 =>
        intro out l hout h
        rw [List.foldlM_cons] at h
        cases h1 : walkF T fuel t (way ++ [d]) out with
        | error e => rw [h1] at h; cases h
        | ok o =>
          rw [h1] at h
          obtain ⟨a1, a2⟩ := ih t _ _ _ hout h1
          obtain ⟨b1, b2, b3⟩ := ih2 o l a1 h
          exact ⟨b1, by omega, fun _ => by omega⟩
     obtain ⟨c1, c2, c3⟩ := fold _ _ _ hout h
     exact ⟨c1, c3 ho⟩
theorem Fine.full_shut {T : List Rec} (hF : Fine T) (c : Int) : (∀ z ∈ fullL T c, openF T z = []) ∧ fullL T c ≠ [] := by
 have h := walkF_shut 16 c [] [] _ (fun z hz => by cases hz) (hF.full c)
 refine ⟨h.1, fun e => ?_⟩
 have := h.2
 rw [e] at this
 exact absurd this (Nat.lt_irrefl _)
theorem beyond_pred {c : Int} (h : c < 0 ∨ 1114111 < c) : syl c = false ∧ jl c = false ∧ jv c = false ∧ jt c = false := by
 refine ⟨?_, ?_, ?_, ?_⟩ <;> (simp only [syl, jl, jv, jt, Bool.and_eq_false_iff, decide_eq_false_iff_not]; omega)
theorem beyond_full {T : List Rec} {c : Int} (h : c < 0 ∨ 1114111 < c) : openF T c = [] ∧ fullF T c = .ok [c] := by
 have ho : openF T c = [] := by
  unfold openF
  rw [(beyond_pred h).1, findR_out h]
  rfl
 exact ⟨ho, full_none ho⟩
theorem beyond_looks {T : List Rec} {c : Int} (h : c < 0 ∨ 1114111 < c) : looksF T c = [c] ∧ scriptF T c = ⟨#[]⟩ := by
 unfold looksF scriptF
 rw [findR_out h, findR_out h]
 exact ⟨rfl, rfl⟩
theorem right_pair {T : List Rec} (hG : Good T) {x : Rec} (hx : x ∈ T) (hk : x.kind = 7) : x.to.length = 2 ∧ (0 ≤ rd x.to 0 ∧ rd x.to 0 ≤ 1114111) ∧ (0 ≤ rd x.to 1 ∧ rd x.to 1 ≤ 1114111) := by
 have hR := hG.right x hx
 have hf := hR.fits
 unfold fitsB at hf
 simp [hk, listB] at hf
 have hlen : x.to.length = 2 := by omega
 obtain ⟨a, b, hab⟩ : ∃ a b, x.to = [a, b] := by
  match hto : x.to with
  | [a, b] => exact ⟨a, b, rfl⟩
  | [] => rw [hto] at hlen; simp at hlen
  | [a] => rw [hto] at hlen; simp at hlen
  | a :: b :: c :: r => rw [hto] at hlen; simp at hlen
 have hv : validB a = true ∧ validB b = true := by
  have := hf.2.2.2
  rw [hab] at this
  simpa using this
 rw [hab]
 simp only [validB, Bool.and_eq_true, decide_eq_true_eq] at hv
 exact ⟨rfl, ⟨hv.1.1.1, hv.1.1.2⟩, ⟨hv.2.1.1, hv.2.1.2⟩⟩
theorem beyond_comp {T : List Rec} (hG : Good T) {c b : Int} (h : c < 0 ∨ 1114111 < c) : (compF T c b).2 = false ∧ (compF T b c).2 = false ∧ secondF T c = false := by
 obtain ⟨h1, h2, h3, h4⟩ := beyond_pred h
 have hp : ∀ a, T.find? (pairAt c a) = none ∧ T.find? (pairAt a c) = none := fun a => by
  constructor
  ·rw [List.find?_eq_none]
   intro x hx hp
   unfold pairAt at hp
   simp only [Bool.and_eq_true, decide_eq_true_eq] at hp
   have := right_pair hG hx (by omega)
   omega
  ·rw [List.find?_eq_none]
   intro x hx hp
   unfold pairAt at hp
   simp only [Bool.and_eq_true, decide_eq_true_eq] at hp
   have := right_pair hG hx (by omega)
   omega
 refine ⟨?_, ?_, ?_⟩
 ·unfold compF
  rw [h2, h1, (hp b).1]
  simp
 ·unfold compF
  rw [h3, h4, (hp b).2]
  simp
 ·unfold secondF
  rw [h3, h4]
  simp only [Bool.false_or]
  refine List.any_eq_false.2 fun x hx hp => ?_
  simp only [Bool.and_eq_true, decide_eq_true_eq] at hp
  have := right_pair hG hx hp.1
  omega
end Go.Proofs.YtnohcnneflogjaaGreat.M
namespace Go.Proofs.YtnohcnneflogjaaGreat.M
open Go.RowKit
theorem Fine.pair_right {T : List Rec} (hF : Fine T) {x : Rec} (hx : x ∈ T) (hk : x.kind = 7) : pairsB T x = true := by
 obtain ⟨i, hi⟩ := List.mem_iff_getElem?.1 hx
 have hf : fam x.kind = 3 := by rw [hk]; rfl
 have hw := hF.wrong0 hi
 obtain ⟨h1, h2⟩ := hF.upper hx (.inr hf)
 have hl := hF.full x.lo
 cases hfl : fallsB T (fullL T x.lo) with
 | true => rw [wrongE_falls hf (by omega) h2 hl hfl] at hw; exact absurd hw (by decide)
 | false =>
   cases hp : pairsB T x with
   | true => rfl
   | false => rw [wrongE_pair hf (by omega) h2 hl hfl hk hp] at hw; exact absurd hw (by decide)
theorem pairAt_iff {a b : Int} {x : Rec} (h : pairAt a b x = true) : x.kind = 7 ∧ rd x.to 0 = a ∧ rd x.to 1 = b := by
 unfold pairAt at h
 simp only [Bool.and_eq_true, decide_eq_true_eq] at h
 exact ⟨h.1.1, h.1.2, h.2⟩
theorem pair_of {l : List Int} (h : l.length = 2) : l = [rd l 0, rd l 1] := by
 match l, h with
 | [a, b], _ => rfl
theorem not_syl_of {x : Rec} (h : hangulB x = false) (h1 : x.lo = x.hi) : syl x.lo = false := by
 unfold hangulB coversB at h
 simp only [Bool.or_eq_false_iff, Bool.and_eq_false_iff, decide_eq_false_iff_not] at h
 simp only [syl, Bool.and_eq_false_iff, decide_eq_false_iff_not]
 omega
theorem comp_yes {T : List Rec} (hF : Fine T) {a b p : Int} (h : compF T a b = (p, true)) :
 openF T p = [a, b] ∧ secondF T b = true ∧ numF T 2 (·.n) p = 0 ∧ numF T 2 (·.n) a = 0 := by
 unfold compF at h
 split at h
 ·rename_i hc
  injection h with h _
  simp only [Bool.and_eq_true] at hc
  obtain ⟨ha, hb⟩ := hc
  have h1 : 4352 ≤ a ∧ a ≤ 4370 := by simpa [jl] using ha
  have h2 : 4449 ≤ b ∧ b ≤ 4469 := by simpa [jv] using hb
  have hs : syl p = true := by simp [syl]; omega
  refine ⟨?_, ?_, ?_, ?_⟩
  ·rw [open_syl T hs]
   unfold sylA sylB
   rw [if_pos (by omega), if_pos (by omega)]
   congr 1
   ·omega
   ·congr 1
    omega
  ·unfold secondF
   rw [hb]
   rfl
  ·unfold numF
   rw [hF.no_hangul (.inl rfl) (.inl hs)]
  ·unfold numF
   rw [hF.no_hangul (.inl rfl) (.inr (.inl ha))]
 ·split at h
  ·rename_i hc
   injection h with h _
   simp only [Bool.and_eq_true, decide_eq_true_eq] at hc
   obtain ⟨⟨ha, hr⟩, hb⟩ := hc
   have h1 := syl_iff ha
   have h2 : 4520 ≤ b ∧ b ≤ 4546 := by simpa [jt] using hb
   have hs : syl p = true := by simp [syl]; omega
   refine ⟨?_, ?_, ?_, ?_⟩
   ·rw [open_syl T hs]
    unfold sylA sylB
    rw [if_neg (by omega), if_neg (by omega)]
    congr 1
    ·omega
    ·congr 1
     omega
   ·unfold secondF
    rw [hb]
    cases jv b <;> rfl
   ·unfold numF
    rw [hF.no_hangul (.inl rfl) (.inl hs)]
   ·unfold numF
    rw [hF.no_hangul (.inl rfl) (.inl ha)]
  ·split at h
   ·rename_i x hx
    injection h with h _
    have hm := List.mem_of_find?_eq_some hx
    obtain ⟨h7, h8, h9⟩ := pairAt_iff (List.find?_some hx)
    have hf : fam x.kind = 3 := by rw [h7]; rfl
    have hR := hF.right x hm
    have hlo := hR.oneOf (by omega)
    have hh := (hF.upper hm (.inr hf)).2
    have hp := hF.pair_right hm h7
    unfold pairsB at hp
    simp only [Bool.and_eq_true, decide_eq_true_eq] at hp
    obtain ⟨i, hi⟩ := List.mem_iff_getElem?.1 hm
    have hfind : findR T 3 x.lo = some x := hF.find_at hi (by rw [hit_point hR hlo (by omega) hf]; exact dTz rfl) (by decide)
    have h2 := pair_of (right_pair hF.toGood hm h7).1
    rw [h8, h9] at h2
    subst h
    refine ⟨?_, ?_, hp.1.1.1.1.1, ?_⟩
    ·unfold openF
     rw [not_syl_of hh hlo, hfind]
     exact h2
    ·unfold secondF
     have : T.any (fun x => decide (x.kind = 7) && decide (rd x.to 1 = b)) = true := List.any_eq_true.2 ⟨x, hm, by simp [h7, h9]⟩
     rw [this]
     cases jv b <;> cases jt b <;> rfl
    ·rw [← h8]
     exact hp.1.1.1.1.2
   ·injection h with _ h
    cases h
end Go.Proofs.YtnohcnneflogjaaGreat.M
namespace Go.Proofs.YtnohcnneflogjaaGreat.M
open Go.RowKit
def firstV (J : Int → Int) : List Int → Int
 | [] => 5
 | a :: r => if J a = 5 then firstV J r else J a
def Way (x : List Int) (st : Int) : Int → List Int → Prop
 | k, [] => k < 0 ∨ (x.length : Int) ≤ k
 | k, a :: r => 0 ≤ k ∧ k < x.length ∧ rd x k = a ∧ Way x st (k + st) r
theorem rd_elem (x : List Int) (i : Nat) (h : i < x.length) : rd x i = x[i] := by simp [rd, h]
theorem way_up (x : List Int) : ∀ (n i : Nat), i + n = x.length → Way x 1 i (x.drop i)
 | 0, i, h => by
   rw [List.drop_of_length_le (by omega)]
   exact .inr (by omega)
 | n + 1, i, h => by
   rw [List.drop_eq_getElem_cons (by omega)]
   exact ⟨by omega, by omega, rd_elem x i (by omega), way_up x n (i + 1) (by omega)⟩
theorem way_down (x : List Int) : ∀ i : Nat, i ≤ x.length → Way x (-1) ((i : Int) - 1) (x.take i).reverse
 | 0, _ => .inl (by omega)
 | i + 1, h => by
   rw [List.take_succ_eq_append_getElem (by omega), List.reverse_append]
   have := way_down x i (by omega)
   refine ⟨by omega, by omega, ?_, ?_⟩
   ·rw [show ((i + 1 : Nat) : Int) - 1 = (i : Int) by omega]
    exact rd_elem x i (by omega)
   ·rw [show ((i + 1 : Nat) : Int) - 1 + -1 = (i : Int) - 1 by omega]
    exact this
def okL (v : Int) : Bool := v == 2 || v == 3
def okR (v : Int) : Bool := v == 1 || v == 3
def fitsF (J C : Int → Int) (x : List Int) (i : Int) : Bool :=
 if i < 0 ∨ (x.length : Int) ≤ i then false
 else if rd x i ≠ 8204 ∧ rd x i ≠ 8205 then true
 else if 0 < i ∧ C (rd x (i - 1)) = 9 then true
 else if rd x i = 8205 then false
 else okL (firstV J (x.take i.toNat).reverse) && okR (firstV J (x.drop (i.toNat + 1)))
def badJ (J C : Int → Int) (x : List Int) : Nat → Nat → Int
 | 0, _ => -1
 | k + 1, i => if fitsF J C x i = true then badJ J C x k (i + 1) else i
def checkJ (J C : Int → Int) (x : List Int) : Int := badJ J C x x.length 0
end Go.Proofs.YtnohcnneflogjaaGreat.M
namespace Go.Proofs.YtnohcnneflogjaaGreat.M
open Go.RowKit
theorem own_at {w : World} {base g n cap : Nat} {l : List Int} (h : w.ownsRow base 21 1 (.slice (some ⟨g, 0, none⟩) n cap) n (l.map (Value.int .i32))) {i : Nat} (hi : i < n) :
 w.cell? ⟨g, i, none⟩ = some (.int .i32 (rd l i)) ∧ w.frozen? ⟨g, i, none⟩ = false := by
 obtain ⟨hlen, ⟨hv, _⟩ | ⟨g', cap', cur, hv, hb, hh, hnc, hcm, hsz, htk⟩⟩ := h
 ·cases hv
 ·cases hv
  rw [List.length_map, Nat.mul_one] at hlen
  constructor
  ·rw [cell_of_row _ _ _ _ _ (0, 0) hh]
   have h2 : (l.map (Value.int .i32))[i]? = some (.int .i32 (rd l i)) := by
    rw [List.getElem?_map, List.getElem?_eq_getElem (by omega), rd_elem l i (by omega)]
    rfl
   rw [← htk, List.getElem?_take, if_pos (by omega)] at h2
   simpa using h2
  ·simp [World.frozen?, hh]
theorem own_put {w : World} {base g n cap : Nat} {l : List Int} (h : w.ownsRow base 21 1 (.slice (some ⟨g, 0, none⟩) n cap) n (l.map (Value.int .i32))) (i : Nat) (z : Int) :
 (w.setCell ⟨g, i, none⟩ (.int .i32 z)).ownsRow base 21 1 (.slice (some ⟨g, 0, none⟩) n cap) n ((l.set i z).map (Value.int .i32)) := by
 obtain ⟨hlen, ⟨hv, _⟩ | ⟨g', cap', cur, hv, hb, hh, hnc, hcm, hsz, htk⟩⟩ := h
 ·cases hv
 ·cases hv
  refine ⟨by simpa using hlen, .inr ⟨g, cap, cur.setIfInBounds i (.int .i32 z), rfl, hb, box_set hh i _, hnc, hcm, by simpa using hsz, ?_⟩⟩
  rw [Array.toList_setIfInBounds, List.take_set, htk, List.map_set]
theorem own_some {w : World} {base n cap : Nat} {A : Option Addr} {xs : List Value} (h : w.ownsRow base 21 1 (.slice A n cap) n xs) (hn : 0 < n) : ∃ g, A = some ⟨g, 0, none⟩ ∧ base ≤ g := by
 obtain ⟨hlen, ⟨hv, h0⟩ | ⟨g', cap', cur, hv, hb, _⟩⟩ := h
 ·omega
 ·cases hv
  exact ⟨g', rfl, hb⟩
end Go.Proofs.YtnohcnneflogjaaGreat.M
namespace Go.Proofs.YtnohcnneflogjaaGreat.M
open Go.RowKit
theorem beq_drop (X Y : List Int) (i : Nat) (h1 : i < X.length) (h2 : i < Y.length) : (X.drop i == Y.drop i) = (rd X i == rd Y i && (X.drop (i + 1) == Y.drop (i + 1))) := by
 rw [List.drop_eq_getElem_cons h1, List.drop_eq_getElem_cons h2, rd_elem X i h1, rd_elem Y i h2]
 rfl
theorem SameB_calls (A B : Option Addr) (ca cb : Nat) (X Y : List Int) (w : World) (hA : Ints .i32 w A X) (hB : Ints .i32 w B Y) (hx : X.length ≤ 35184372087808) (hy : Y.length ≤ 35184372087808) (b : Bool) (hb : (X == Y) = b) :
 Calls Tryz.prog 26 #[.slice A X.length ca, .slice B Y.length cb] w fun e w' => e = .returned (.bool b) ∧ Up w w' := by
 have HA := Az.mk hA
 have HB := Az.mk hB
 have HR := Az.mk hb
 clear hA hB hb
 by_cases hl : X.length = Y.length
 ·have t0 : ((X.length : Int) != (Y.length : Int)) = false := by simp [hl]
  have HL := Az.mk hl
  clear hl
  go_enter Tryz.func26, Tryz.ntmps26
  go_wp2
  go_loopg [5] X.length (fun k v5 w' => ∃ i : Nat, v5 = .int .i64 i ∧ Az (i + k = X.length ∧ (X.drop i == Y.drop i) = b) ∧ Az (∃ q, w' = w.drewN q))
  case atStart => exact ⟨0, rfl, ⟨Nat.zero_add _, HR.out⟩, ⟨0, rfl⟩⟩
  case round =>
   obtain ⟨i, rfl, HI, HQ⟩ := hrel
   have HU : Az (Up w wr) := ⟨by obtain ⟨q, hq⟩ := HQ.out; rw [hq]; exact up_drewN (up_refl _) _⟩
   have hi := HI.out.1
   cases gk with
   | zero =>
     have hlt : decide ((i : Int) < (X.length : Int)) = false := dFz (by omega)
     have hln : decide (i < X.length) = false := dFz (by omega)
     have hr := HI.out.2
     rw [List.drop_of_length_le (by omega), List.drop_of_length_le (by have := HL.out; omega)] at hr
     have hr : true = b := hr
     subst hr
     clear hi
     go_wp2
     go_ret
     exact ⟨rfl, HU.out⟩
   | succ k =>
     have hlt : decide ((i : Int) < (X.length : Int)) = true := dTz (by omega)
     have hln : decide (i < X.length) = true := dTz (by omega)
     have p1 : 0 ≤ (i : Int) := by omega
     have p2 : (i : Int) < (X.length : Int) := by omega
     have p3 : (i : Int) < (Y.length : Int) := by have := HL.out; omega
     have hr := HI.out.2
     rw [beq_drop X Y i (by omega) (by omega)] at hr
     obtain ⟨ad, hAx, hc⟩ := Ints.at_ HA.out i p1 p2
     obtain ⟨bd, hBx, hd⟩ := Ints.at_ HB.out i p1 p3
     subst hAx
     subst hBx
     replace hc := up_cell HU.out hc
     replace hd := up_cell HU.out hd
     rw [Int.toNat_natCast] at hc hd
     obtain ⟨x, hx0⟩ : ∃ x, rd X i = x := ⟨_, rfl⟩
     obtain ⟨y, hy0⟩ : ∃ y, rd Y i = y := ⟨_, rfl⟩
     rw [hx0] at hc hr
     rw [hy0] at hd hr
     clear hi hx0 hy0
     by_cases he : x = y
     ·subst he
      have HR2 : Az ((X.drop (i + 1) == Y.drop (i + 1)) = b) := ⟨by rw [← hr]; simp⟩
      clear hr
      go_wp2
      go_quiet (fail)
      go_wp2
      go_roundg k
      case measure => have := HI.out; omega
      case rel => exact ⟨i + 1, rfl, ⟨by have := HI.out; omega, HR2.out⟩, ⟨by obtain ⟨q, hq⟩ := HQ.out; exact ⟨q + nq, by rw [hq, World.drewN_drewN]⟩⟩⟩
     ·have hr2 : false = b := by rw [← hr]; simp [he]
      have e1 : (x != y) = true := bne_iff_ne.mpr he
      have e2 : (x == y) = false := bqf he
      subst hr2
      clear he hr
      go_wp2
      go_quiet (fail)
      go_wp2
      go_ret
      exact ⟨rfl, up_drewN HU.out _⟩
 ·have t0 : ((X.length : Int) != (Y.length : Int)) = true := bne_iff_ne.mpr (by omega)
  have hr : false = b := by
   rw [← HR.out]
   symm
   exact bqf (fun h => hl (by rw [h]))
  subst hr
  clear hl
  go_enter Tryz.func26, Tryz.ntmps26
  go_wp2
  go_ret
  exact ⟨rfl, up_refl _⟩
theorem SameN_calls (A B : Option Addr) (n m ca cb : Nat) (X Y : List Int) (w : World) (hA : Ints .i32 w A X) (hB : Ints .i32 w B Y) (hn : X.length = n) (hm : Y.length = m) (hx : n ≤ 35184372087808) (hy : m ≤ 35184372087808) (b : Bool) (hb : (X == Y) = b) :
 Calls Tryz.prog 26 #[.slice A n ca, .slice B m cb] w fun e w' => e = .returned (.bool b) ∧ Up w w' := by
 subst hn
 subst hm
 exact SameB_calls A B ca cb X Y w hA hB hx hy b hb
end Go.Proofs.YtnohcnneflogjaaGreat.M
namespace Go.Proofs.YtnohcnneflogjaaGreat.M
open Go.RowKit
theorem Equal_calls (A B : Option Addr) (ca cb : Nat) (X Y : List Int) (w : World) (hA : Ints .i32 w A X) (hB : Ints .i32 w B Y) (hx : X.length ≤ 35184372087808) (hy : Y.length ≤ 35184372087808) (b : Bool) (hb : (X == Y) = b) :
 Calls Tryz.prog 84 #[.slice A X.length ca, .slice B Y.length cb] w fun e w' => e = .returned (.bool b) ∧ Up w w' := by
 have HA := Az.mk hA
 have HB := Az.mk hB
 have HR := Az.mk hb
 clear hA hB hb
 by_cases hl : X.length = Y.length
 ·have t0 : ((X.length : Int) != (Y.length : Int)) = false := by simp [hl]
  have HL := Az.mk hl
  clear hl
  go_enter Tryz.func84, Tryz.ntmps84
  go_wp2
  go_loopg [5, 13] X.length (fun k v5 v13 w' => ∃ i : Nat, v13 = .int .i64 i ∧ Az (i + k = X.length ∧ (X.drop i == Y.drop i) = b) ∧ Az (∃ q, w' = w.drewN q))
  case atStart => exact ⟨0, rfl, ⟨Nat.zero_add _, HR.out⟩, ⟨0, rfl⟩⟩
  case round =>
   obtain ⟨i, rfl, HI, HQ⟩ := hrel
   have HU : Az (Up w wr) := ⟨by obtain ⟨q, hq⟩ := HQ.out; rw [hq]; exact up_drewN (up_refl _) _⟩
   have hi := HI.out.1
   cases gk with
   | zero =>
     have hlt : decide ((i : Int) < (X.length : Int)) = false := dFz (by omega)
     have hln : decide (i < X.length) = false := dFz (by omega)
     have hr := HI.out.2
     rw [List.drop_of_length_le (by omega), List.drop_of_length_le (by have := HL.out; omega)] at hr
     have hr : true = b := hr
     subst hr
     clear hi
     go_wp2
     go_ret
     exact ⟨rfl, HU.out⟩
   | succ k =>
     have hlt : decide ((i : Int) < (X.length : Int)) = true := dTz (by omega)
     have hln : decide (i < X.length) = true := dTz (by omega)
     have p1 : 0 ≤ (i : Int) := by omega
     have p2 : (i : Int) < (X.length : Int) := by omega
     have p3 : (i : Int) < (Y.length : Int) := by have := HL.out; omega
     have hr := HI.out.2
     rw [beq_drop X Y i (by omega) (by omega)] at hr
     obtain ⟨ad, hAx, hc⟩ := Ints.at_ HA.out i p1 p2
     obtain ⟨bd, hBx, hd⟩ := Ints.at_ HB.out i p1 p3
     subst hAx
     subst hBx
     replace hc := up_cell HU.out hc
     replace hd := up_cell HU.out hd
     rw [Int.toNat_natCast] at hc hd
     obtain ⟨x, hx0⟩ : ∃ x, rd X i = x := ⟨_, rfl⟩
     obtain ⟨y, hy0⟩ : ∃ y, rd Y i = y := ⟨_, rfl⟩
     rw [hx0] at hc hr
     rw [hy0] at hd hr
     clear hi hx0 hy0
     by_cases he : x = y
     ·subst he
      have HR2 : Az ((X.drop (i + 1) == Y.drop (i + 1)) = b) := ⟨by rw [← hr]; simp⟩
      clear hr
      go_wp2
      go_quiet (fail)
      go_wp2
      go_roundg k
      case measure => have := HI.out; omega
      case rel => exact ⟨i + 1, rfl, ⟨by have := HI.out; omega, HR2.out⟩, ⟨by obtain ⟨q, hq⟩ := HQ.out; exact ⟨q + nq, by rw [hq, World.drewN_drewN]⟩⟩⟩
     ·have hr2 : false = b := by rw [← hr]; simp [he]
      have e1 : (x != y) = true := bne_iff_ne.mpr he
      have e2 : (x == y) = false := bqf he
      subst hr2
      clear he hr
      go_wp2
      go_quiet (fail)
      go_wp2
      go_ret
      exact ⟨rfl, up_drewN HU.out _⟩
 ·have t0 : ((X.length : Int) != (Y.length : Int)) = true := bne_iff_ne.mpr (by omega)
  have hr : false = b := by
   rw [← HR.out]
   symm
   exact bqf (fun h => hl (by rw [h]))
  subst hr
  clear hl
  go_enter Tryz.func84, Tryz.ntmps84
  go_wp2
  go_ret
  exact ⟨rfl, up_refl _⟩
theorem EqualN_calls (A B : Option Addr) (n m ca cb : Nat) (X Y : List Int) (w : World) (hA : Ints .i32 w A X) (hB : Ints .i32 w B Y) (hn : X.length = n) (hm : Y.length = m) (hx : n ≤ 35184372087808) (hy : m ≤ 35184372087808) (b : Bool) (hb : (X == Y) = b) :
 Calls Tryz.prog 84 #[.slice A n ca, .slice B m cb] w fun e w' => e = .returned (.bool b) ∧ Up w w' := by
 subst hn
 subst hm
 exact Equal_calls A B ca cb X Y w hA hB hx hy b hb
end Go.Proofs.YtnohcnneflogjaaGreat.M
namespace Go.Proofs.YtnohcnneflogjaaGreat.M
open Go.RowKit
attribute [local go_sem] max_two_int min_two_int
theorem ints_take12 {k : IntKind} {w : World} {A : Option Addr} {l : List Int} (h : Ints k w A l) (n : Nat) : Ints k w A (l.take n) := fun i v hv => by
 rw [List.getElem?_map, List.getElem?_take] at hv
 split at hv
 ·exact h i v (by rw [List.getElem?_map]; exact hv)
 ·cases hv
theorem own_room12 {w : World} {base : Nat} {t : TypeId} {s : Nat} {A : Option Addr} {n c : Nat} {xs : List Value} (h : w.ownsRow base t s (.slice A n c) n xs) (hn : 0 < n) : n ≤ c ∧ ∃ g, A = some ⟨g, 0, none⟩ ∧ base ≤ g := by
 rcases h.2 with ⟨hv, hn0⟩ | ⟨g, cap, cur, hv, hb, _, hc, _⟩
 ·omega
 ·cases hv; exact ⟨hc, g, rfl, hb⟩
def RetFew12 (l : List Int) (w : World) (e : Ending) (w' : World) : Prop := ∃ g c, e = .returned (.slice (some ⟨g, 0, none⟩) l.length c) ∧ l.length + 2 ≤ c ∧ w'.ownsRow w.heap.size 21 1 (.slice (some ⟨g, 0, none⟩) (l.length + 2) c) (l.length + 2) ((l ++ [-7, -8]).map (Value.int .i32)) ∧ Up w w'
theorem few12_calls (A : Option Addr) (c : Nat) (x y : List Int) (n : Nat) (w : World) (hI : Ints .i32 w A x) (hx : x.length < 4611686018427387904) (hc : x.length ≤ c) (hn : n ≤ 1000) (hy : x.take n = y) :
 Calls Tryz.prog 23 #[.slice A x.length c, .int .i64 n] w (RetFew12 y w) := by
 have hyl : y.length = min n x.length := by rw [← hy, List.length_take]
 have hmn : min (x.length : Int) (n : Int) = (y.length : Int) := by omega
 have h1 : 0 ≤ (y.length : Int) := by omega
 have h2 : (y.length : Int) ≤ (c : Int) := by omega
 have hy1000 : y.length ≤ 1000 := by omega
 have HY : Az (Ints .i32 w A y) := ⟨by rw [← hy]; exact ints_take12 hI n⟩
 have HLEN : Az (0 + y.length ≤ maxLen ∧ (0 + y.length) * 4 ≤ 140737488355328) := ⟨by unfold maxLen; omega⟩
 have HLEN2 : Az (y.length + 2 ≤ maxLen ∧ (y.length + 2) * 4 ≤ 140737488355328) := ⟨by unfold maxLen; omega⟩
 obtain ⟨ie, ze, hie, hze, hsi, hby, hzc⟩ := i32_info
 clear hI hy hyl hc
 go_enter Tryz.func23, Tryz.ntmps23
 go_wp2_with (first | (at_builtin; refine (wpList_append_row _ rfl _ _ 23 rfl w.heap.size 21 ie ze 1 4 Tryz.underlying23 hie hze hsi hby hzc (by decide) _ 0 [] rfl (World.ownsRow_nil _ _ _ _) A y.length c (y.map (Value.int .i32)) rfl (by simp) ?ha (ints_one _ _) ?hb ?hc ?hd ?_); (case ha => exact HY.out); (case hb => exact HLEN.out.1); (case hc => exact HLEN.out.2); (case hd => exact Nat.le_refl _); intro v' w3 hown' hgrow hat'; rw [Nat.zero_add, List.nil_append] at hown'; obtain ⟨A3, c3, hv⟩ := own_any hown'; subst hv; have HO3 := Az.mk hown'; have HU3 := Az.mk (up_nil hgrow rfl); clear hown' hgrow hat') | (at_builtin; refine (wpList_append_row _ rfl _ _ 23 rfl w.heap.size 21 ie ze 1 4 Tryz.underlying23 hie hze hsi hby hzc (by decide) (.slice A3 y.length c3) y.length (y.map (Value.int .i32)) rfl (HO3.out.alloc _) (some ⟨w3.heap.size, 0, none⟩) 2 2 (([-7, -8] : List Int).map (Value.int .i32)) rfl rfl (ints_new w3 [-7, -8]) (ints_one _ _) ?ha6 ?hb6 ?hc6 ?_); (case ha6 => exact HLEN2.out.1); (case hb6 => exact HLEN2.out.2); (case hc6 => exact Nat.le_trans HU3.out.size (up_alloc (up_refl _) _).size); intro v6 w6 hown6 hgrow6 hat6; have HO6 : Az (w6.ownsRow w.heap.size 21 1 v6 (y.length + 2) ((y ++ [-7, -8]).map (Value.int .i32))) := ⟨(congrArg (fun l => w6.ownsRow w.heap.size 21 1 v6 (y.length + 2) l) (List.map_append (f := Value.int .i32) (l₁ := y) (l₂ := [-7, -8]))).mpr hown6⟩; obtain ⟨A6, c6, hv6⟩ := own_any HO6.out; subst hv6; obtain ⟨hcap, g6, hA6, _⟩ := own_room12 HO6.out (by omega); subst hA6; have HU6 := Az.mk ((up_alloc HU3.out (.cells #[.int .i32 (-7), .int .i32 (-8)] 21)).grown hgrow6 (up_alloc HU3.out (.cells #[.int .i32 (-7), .int .i32 (-8)] 21)).size (fun k hk => (HO3.out.lt k hk).1)); have hc6 : (y.length : Int) ≤ (c6 : Int) := Int.ofNat_le.2 (Nat.le_trans (Nat.le_add_right _ _) hcap); clear hown6 hgrow6 hat6))
 go_ret
 exact ⟨_, _, rfl, hcap, HO6.out, HU6.out⟩
theorem few12_own (A : Option Addr) (c : Nat) (x y : List Int) (n : Nat) (z : Int) (hz : z = (n : Int)) (w : World) (hI : Ints .i32 w A x) (hx : x.length < 4611686018427387904) (hc : x.length ≤ c) (hn : n ≤ 1000) (hy : x.take n = y) :
 Calls Tryz.prog 23 #[.slice A x.length c, .int .i64 z] w (RetFew12 y w) := by
 subst hz
 exact few12_calls A c x y n w hI hx hc hn hy
theorem own_two_ints {w : World} {base g c : Nat} {y : List Int} (h : w.ownsRow base 21 1 (.slice (some ⟨g, 0, none⟩) (y.length + 2) c) (y.length + 2) ((y ++ [-7, -8]).map (Value.int .i32))) : Ints .i32 w (some ⟨g, 0, none⟩) (y ++ [-7, -8]) := by
 have h' : w.ownsRow base 21 1 (.slice (some ⟨g, 0, none⟩) (y ++ [-7, -8]).length c) (y ++ [-7, -8]).length ((y ++ [-7, -8]).map (Value.int .i32)) := by rw [List.length_append]; exact h
 obtain ⟨A', c'', he, hi, _⟩ := own_ints h'
 cases he
 exact hi
theorem two_left {w : World} {A : Option Addr} {y z : List Int} (h : Ints .i32 w A (y ++ z)) : Ints .i32 w A y := by
 have h2 := ints_take12 h y.length
 rw [List.take_left] at h2
 exact h2
theorem few12_ints (A : Option Addr) (c : Nat) (x y : List Int) (n : Nat) (z : Int) (hz : z = (n : Int)) (w : World) (hI : Ints .i32 w A x) (hx : x.length < 4611686018427387904) (hc : x.length ≤ c) (hn : n ≤ 1000) (hy : x.take n = y) :
 Calls Tryz.prog 23 #[.slice A x.length c, .int .i64 z] w fun e w' => ∃ A' c', e = .returned (.slice A' y.length c') ∧ Ints .i32 w' A' y ∧ Up w w' := by
 subst hz
 refine (few12_calls A c x y n w hI hx hc hn hy).mono ?_
 rintro e w' ⟨g, c', rfl, _, hown, hup⟩
 refine ⟨_, _, rfl, ?_, hup⟩
 have h : w'.ownsRow w.heap.size 21 1 (.slice (some ⟨g, 0, none⟩) (y ++ [-7, -8]).length c') (y ++ [-7, -8]).length ((y ++ [-7, -8]).map (Value.int .i32)) := by rw [List.length_append]; exact hown
 obtain ⟨A', c'', he, hi, _⟩ := own_ints h
 cases he
 have h2 := ints_take12 hi y.length
 rw [List.take_left] at h2
 exact h2
end Go.Proofs.YtnohcnneflogjaaGreat.M
