/- What Encode writes, in plain Lean: it is read as it was. -/
import Derived.Test.YticocjpfhllelaaPP3
import Derived.Test.YticocjpfhllelaaPP4
set_option linter.unusedVariables false
set_option linter.unusedSimpArgs false
namespace Go.Proofs.Yticocjpfhllelaa.Pure
open Go.RowKit Go.Proofs.Yticocjpfhllelaa.XP Go.Proofs.StableSort Go.Proofs.YticocjpfhllelaaW.PrintWords Go.Proofs.YticocjpfhllelaaW.PrintLast

/-! ### The first loop -/
def basicT (l : List Int) (i : Nat) : Nat → Bool := fun j => decide (j < i) && decide (rd l j < 128)
def oth (l : List Int) : Nat → List Nat
  | 0 => []
  | b + 1 => oth l b ++ if rd l b < 128 then [] else [b]
theorem rd_at (l : List Int) {i : Nat} (h : i < l.length) : rd l i = l[i] := by simp [rd, h]
theorem validI_at {l : List Int} (hv : ∀ x ∈ l, validI x = true) {i : Nat} (h : i < l.length) : 0 ≤ rd l i ∧ rd l i ≤ 1114111 ∧ validI (rd l i) = true := by
  rw [rd_at l h]
  have := hv _ (List.getElem_mem h)
  refine ⟨?_, ?_, this⟩ <;> (unfold validI at this; simp only [Bool.and_eq_true, decide_eq_true_eq] at this; omega)
theorem encA_run (l : List Int) (hv : ∀ x ∈ l, validI x = true) (hN : l.length ≤ 100000) : ∀ (m i : Nat), i + m = l.length → ∀ c, Fen c l.length (basicT l i) →
    ∃ c', encA (l.drop i) i (sel l (basicT l i) l.length) ((oth l i).map (fun a : Nat => (a : Int))) c = some (sel l (basicT l l.length) l.length, (oth l l.length).map (fun a : Nat => (a : Int)), c') ∧ Fen c' l.length (basicT l l.length) := by
  intro m
  induction m with
  | zero =>
    intro i hi c hc
    obtain rfl : i = l.length := by omega
    rw [List.drop_length]
    exact ⟨c, rfl, hc⟩
  | succ m ih =>
    intro i hi c hc
    have hil : i < l.length := by omega
    have hva := validI_at hv hil
    rw [List.drop_eq_getElem_cons hil, ← rd_at l hil]
    unfold encA
    by_cases hp : rd l i < 128
    · rw [if_pos hp]
      have hT : basicT l i i = false := by simp [basicT]
      obtain ⟨c1, h1, h2⟩ := hc.take hil hT (c.length + 5) (by have := hc.len; omega)
      have eT : add1 (basicT l i) i = basicT l (i + 1) := by
        funext j
        simp only [add1, basicT]
        by_cases hj : j = i
        · subst hj; simp [hp]
        · have : decide (j < i + 1) = decide (j < i) := by congr 1; apply propext; omega
          rw [this]; simp [hj]
      rw [h1]
      simp only [Option.bind_some]
      have es : sel l (basicT l i) l.length ++ [rd l i % 256] = sel l (basicT l (i + 1)) l.length := by
        have h0 : ∀ b, i ≤ b → sel l (basicT l i) b = sel l (basicT l i) i := by
          intro b
          induction b with
          | zero => intro hb; have : i = 0 := by omega
                    rw [this]
          | succ b ih2 =>
            intro hb
            by_cases hbi : i = b + 1
            · rw [hbi]
            · rw [← ih2 (by omega)]
              simp [sel, basicT]
              intro; omega
        have h3 := sel_add1 (l := l) hT l.length hil
        rw [eT] at h3
        have hc1 : cnt (basicT l i) i = (sel l (basicT l i) l.length).length := by rw [h0 _ (by omega), sel_length]
        rw [h3, List.take_of_length_le (by omega), List.drop_eq_nil_of_le (by omega), Int.emod_eq_of_lt hva.1 (by omega)]
      rw [es]
      rw [eT] at h2
      have eo : oth l (i + 1) = oth l i := by simp [oth, hp]
      rw [← eo]
      exact ih (i + 1) (by omega) c1 h2
    · rw [if_neg hp]
      have eT : basicT l (i + 1) = basicT l i := by
        funext j
        simp only [basicT]
        by_cases hj : j = i
        · subst hj; simp [hp]
        · have : decide (j < i + 1) = decide (j < i) := by congr 1; apply propext; omega
          rw [this]
      have eo : (oth l i).map (fun a : Nat => (a : Int)) ++ [(i : Int)] = (oth l (i + 1)).map (fun a : Nat => (a : Int)) := by simp [oth, hp]
      rw [eo, ← eT]
      rw [← eT] at hc
      exact ih (i + 1) (by omega) c hc

/-! ### The second loop -/
def addAll (T : Nat → Bool) : List Nat → (Nat → Bool)
  | [] => T
  | a :: R => addAll (add1 T a) R
theorem addAll_true {T : Nat → Bool} : ∀ (R : List Nat) (T : Nat → Bool) (j : Nat), addAll T R j = (T j || decide (j ∈ R))
  | [], T, j => by simp [addAll]
  | a :: R, T, j => by
    rw [addAll, addAll_true (T := T) R (add1 T a) j]
    simp only [add1, List.mem_cons]
    by_cases h1 : j = a <;> by_cases h2 : j ∈ R <;> simp [h1, h2]
def ltP (l : List Int) (a b : Nat) : Prop := rd l a < rd l b ∨ (rd l a = rd l b ∧ a < b)

theorem enc_num {q n p h i d : Int} (hd : d = (q - n) * (p + 1) + h - i) (hp : 0 ≤ p) (h0 : 0 ≤ h) (h1 : h ≤ p) : n + (i + d) / (p + 1) = q ∧ (i + d) % (p + 1) = h := by
  have e : i + d = h + (q - n) * (p + 1) := by omega
  rw [e, Int.add_mul_ediv_right _ _ (by omega), Int.add_mul_emod_self_right, Int.ediv_eq_zero_of_lt h0 (by omega), Int.emod_eq_of_lt h0 (by omega)]
  omega

theorem encB_some {l t b b' c c' : List Int} {a p n i bias st h d r : Int} {res : Option (ByteArray × Int)} (hh : puny_counts_ahead.f (c.length + 5) c a = some h) (hok : okB p n i bias st = true) (hd : dOf (rd l a) n p h i = d) (h0 : 0 ≤ d) (h1 : ¬ 2147483647 < d)
    (hn : puny_number.f 60 b d bias = some b') (hr : puny_Adapt.f 60 d (p + 1) (st == 0) = some r) (ht : puny_counts_take.f (c.length + 5) c a = some c') (hl : c'.length = c.length ∧ b'.length ≤ 1000000000000)
    (hrest : encB l t b' c' (p + 1) (n + (i + d) / (p + 1)) ((i + d) % (p + 1) + 1) r (st + 1) = res) : encB l (a :: t) b c p n i bias st = res := by
  subst hd
  rw [encB, hh, Option.bind_some, if_pos hok, if_neg h1, if_pos h0, hn, Option.bind_some, hr, Option.bind_some, ht, Option.bind_some, if_pos hl, hrest]

set_option maxHeartbeats 1000000 in
theorem encB_run (l : List Int) (hv : ∀ x ∈ l, validI x = true) (hN : l.length ≤ 1900) : ∀ (R : List Nat) (T : Nat → Bool) (b c : List Int) (n i bias st : Int),
    Fen c l.length T → (∀ a ∈ R, a < l.length ∧ T a = false) → R.Pairwise (ltP l) → (∀ a ∈ R, n < rd l a ∨ (n = rd l a ∧ i ≤ cnt T a)) →
    128 ≤ n → n ≤ 1114111 → 0 ≤ i → i ≤ cnt T l.length → 0 ≤ bias → bias ≤ 800 → 0 ≤ st → st ≤ cnt T l.length → b.length + 20 * R.length ≤ 1000000 →
    ∃ (D : List Int) (n' i' bias' st' : Int), encB l (R.map (fun a : Nat => (a : Int))) b c (cnt T l.length) n i bias st = some (strOfNums (b ++ D), 0) ∧ (∀ x ∈ D, (97 ≤ x ∧ x ≤ 122) ∨ (48 ≤ x ∧ x ≤ 57)) ∧ D.length ≤ 20 * R.length ∧ (D = [] ↔ R = []) ∧
      ∀ rest, runD (D ++ rest) (sel l T l.length) n i bias st 1 0 1 true = runD rest (sel l (addAll T R) l.length) n' i' bias' st' 1 0 1 true := by
  intro R
  induction R with
  | nil =>
    intro T b c n i bias st hF hR hPw hI hn0 hn1 hi0 hi1 hb0 hb1 hs0 hs1 hbl
    exact ⟨[], n, i, bias, st, by simp [encB], by simp, by simp, by simp, fun rest => rfl⟩
  | cons a R ih =>
    intro T b c n i bias st hF hR hPw hI hn0 hn1 hi0 hi1 hb0 hb1 hs0 hs1 hbl
    have ha := hR a (by simp)
    have hq := validI_at hv ha.1
    have hIa := hI a (by simp)
    have hca : cnt T a ≤ cnt T l.length := cnt_mono (by omega)
    have hcl := cnt_le T l.length
    have hah := hF.ahead (a := a) (by omega) (c.length + 5) (by have := hF.len; omega)
    obtain ⟨c1, ht1, hF1⟩ := hF.take ha.1 ha.2 (c.length + 5) (by have := hF.len; omega)
    have hc1 : c1.length = c.length := by rw [hF1.len, hF.len]
    have hcT1 := cnt_add1 ha.2 l.length
    rw [if_pos ha.1] at hcT1
    have hsel := sel_add1 (l := l) ha.2 l.length ha.1
    have hsl := sel_length l T l.length
    -- the next invariants
    have hI1 : ∀ a2 ∈ R, rd l a < rd l a2 ∨ (rd l a = rd l a2 ∧ (cnt T a : Int) + 1 ≤ cnt (add1 T a) a2) := fun a2 h2 => by
      rw [List.pairwise_cons] at hPw
      rcases hPw.1 a2 h2 with h3 | ⟨h3, h4⟩
      · exact .inl h3
      · refine .inr ⟨h3, ?_⟩
        have h5 := cnt_add1 ha.2 a2
        rw [if_pos h4] at h5
        have h6 := cnt_mono (T := T) (Nat.le_of_lt h4)
        omega
    have hR1 : ∀ a2 ∈ R, a2 < l.length ∧ add1 T a a2 = false := fun a2 h2 => by
      have h3 := hR a2 (by simp [h2])
      rw [List.pairwise_cons] at hPw
      have h4 := hPw.1 a2 h2
      refine ⟨h3.1, ?_⟩
      have : a2 ≠ a := fun e => by unfold ltP at h4; rw [e] at h4; omega
      simp [add1, h3.2, this]
    rw [List.pairwise_cons] at hPw
    -- the number
    obtain ⟨p, hp⟩ : ∃ p, cnt T l.length = p := ⟨_, rfl⟩
    obtain ⟨h, hh⟩ : ∃ h, cnt T a = h := ⟨_, rfl⟩
    obtain ⟨q, hqe⟩ : ∃ q, rd l a = q := ⟨_, rfl⟩
    rw [hp, hh] at hca
    rw [hp] at hcl hi1 hs1 hcT1 hsl ⊢
    rw [hh] at hah hIa hI1 hsel
    rw [hqe] at hq hIa hI1 hsel
    obtain ⟨d, hd⟩ : ∃ d : Int, (q - n) * ((p : Int) + 1) + h - i = d := ⟨_, rfl⟩
    have hmul0 : 0 ≤ (q - n) * ((p : Int) + 1) := Int.mul_nonneg (by omega) (by omega)
    have hmul1 : (q - n) * ((p : Int) + 1) ≤ 1113983 * 1901 := Int.mul_le_mul (by omega) (by omega) (by omega) (by omega)
    have hmul2 : n < q → (p : Int) + 1 ≤ (q - n) * ((p : Int) + 1) := fun h => by
      have := Int.mul_le_mul_of_nonneg_right (show (1 : Int) ≤ q - n by omega) (show (0 : Int) ≤ (p : Int) + 1 by omega)
      omega
    have hd0 : 0 ≤ d := by
      rcases hIa with h3 | ⟨h3, h4⟩
      · have := hmul2 h3
        omega
      · omega
    have hd1 : d ≤ 2147483647 := by omega
    have hdO : dOf q n p h i = d := by
      unfold dOf
      rw [wrap64_id (n := q) (by omega) (by omega), wrap64_id (n := q - n) (by omega) (by omega), wrap64_id (n := (q - n) * ((p : Int) + 1)) (by omega) (by omega), wrap64_id (n := (q - n) * ((p : Int) + 1) + h) (by omega) (by omega), wrap64_id (by omega) (by omega), hd]
    have hnum := enc_num (q := q) (n := n) (p := p) (h := h) (i := i) (d := d) hd.symm (by omega) (by omega) (by omega)
    have had := adaptI_bound d ((p : Int) + 1) (st == 0)
    have hnr := numL_range 18 20 d bias 1 hd0 (by omega)
    have hnl := numL_length 20 d bias 1
    have hne : numL 20 d bias 1 ≠ [] := by unfold numL; split <;> simp
    have hrun := fun rest => read_one d bias hd0 (by omega) rest (sel l T l.length) n i st true
    have hwr := number_f b d bias hb0 hb1 hd0 (by omega) (by omega) 60 (by omega)
    have hadf := adapt_f d ((p : Int) + 1) (st == 0) (by omega) (by omega) 60 (by omega)
    have hmin : min d 2147483648 = d := by omega
    unfold finD at hrun
    rw [hsl, hmin, hnum.1, hnum.2] at hrun
    obtain ⟨L, hL⟩ : ∃ L, numL 20 d bias 1 = L := ⟨_, rfl⟩
    rw [hL] at hnr hnl hne hrun hwr
    obtain ⟨ad, hadd⟩ : ∃ ad, adaptI d ((p : Int) + 1) (st == 0) = ad := ⟨_, rfl⟩
    rw [hadd] at had hrun hadf
    clear hL hadd hmul0 hmul1 hmul2
    -- the rest
    have hok : okB p n i bias st = true := by
      unfold okB
      simp only [Bool.and_eq_true, decide_eq_true_eq]
      omega
    rw [List.length_cons] at hbl
    obtain ⟨D, n', i', bias', st', h1, h2, h3, h4, h5⟩ := ih (add1 T a) (b ++ L) c1 q ((h : Int) + 1) ad (st + 1) hF1 hR1 hPw.2 hI1 (by rcases hIa with h | h <;> omega) hq.2.1 (by omega) (by omega) had.1 had.2 (by omega) (by omega) (by rw [List.length_append]; omega)
    rw [hcT1] at h1
    refine ⟨L ++ D, n', i', bias', st', ?_, ?_, ?_, ?_, fun rest => ?_⟩
    · rw [List.append_assoc] at h1
      rw [List.map_cons]
      refine encB_some hah hok (by rw [hqe]; exact hdO) hd0 (by omega) hwr hadf ht1 ⟨hc1, by rw [List.length_append]; omega⟩ ?_
      rw [hnum.1, hnum.2, show (p : Int) + 1 = ((p + 1 : Nat) : Int) by omega, h1]
    · intro x hx
      rcases List.mem_append.1 hx with hx | hx
      · exact hnr x hx
      · exact h2 x hx
    · rw [List.length_append, List.length_cons]; omega
    · simp [hne]
    · rw [List.append_assoc, hrun, if_neg (by omega), if_pos ⟨hq.2.1, hq.2.2⟩, Int.toNat_natCast, ← hsel, h5]
      rfl
end Go.Proofs.Yticocjpfhllelaa.Pure
