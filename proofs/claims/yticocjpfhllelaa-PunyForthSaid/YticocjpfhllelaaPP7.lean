/- What Decode reads is written just so, in plain Lean. -/
import Derived.Test.YticocjpfhllelaaPP6
set_option linter.unusedVariables false
set_option linter.unusedSimpArgs false
namespace Go.Proofs.Yticocjpfhllelaa.Pure
open Go.RowKit Go.Proofs.Yticocjpfhllelaa.XP Go.Proofs.StableSort Go.Proofs.YticocjpfhllelaaW.PrintWords Go.Proofs.YticocjpfhllelaaW.PrintLast

/-! ### A number that is read -/
theorem dig_dval {b : Int} (h0 : 0 ≤ dval b) (hc : ¬ (65 ≤ b ∧ b ≤ 90)) : dig (dval b) = b := by
  unfold dval at h0 ⊢
  unfold dig
  (repeat' split) <;> (try split at h0) <;> (try split at h0) <;> (try split at h0) <;> omega
theorem numL_fuel : ∀ (f : Nat) (n : Int), 0 ≤ n → n < 10 ^ f → ∀ (F G : Nat), f < F → f < G → ∀ bias k, numL F n bias k = numL G n bias k
  | f, n, h0, h1, F, G, hF, hG, bias, k => by
    obtain ⟨F, rfl⟩ : ∃ q, F = q + 1 := ⟨F - 1, by omega⟩
    obtain ⟨G, rfl⟩ : ∃ q, G = q + 1 := ⟨G - 1, by omega⟩
    unfold numL
    have ht := thr_bound k bias
    by_cases hn : n < thr k bias
    · rw [if_pos hn, if_pos hn]
    · rw [if_neg hn, if_neg hn]
      cases f with
      | zero => simp at h1; omega
      | succ f =>
        rw [Int.pow_succ] at h1
        have hx := num_next ht.1 ht.2 hn _ h1 (Int.pow_nonneg (by omega))
        rw [numL_fuel f _ hx.1 hx.2.1 F G (by omega) (by omega)]
/-- What begins a number and comes to an end without an error is a number's digits. -/
theorem read_inv (bias : Int) : ∀ (bs : List Int) (k v w : Int) (x X : List Int) (N i st : Int) (e : Int), (∀ b ∈ bs, ¬ (65 ≤ b ∧ b ≤ 90)) → runD bs X N i bias st k v w false = (x, e) → e = 0 →
    ∃ (m : Int) (rest : List Int), 0 ≤ m ∧ ∀ F, bs.length ≤ F → bs = numL F m bias k ++ rest
  | [], k, v, w, x, X, N, i, st, e, hc, h, he => by
    unfold runD at h
    simp at h
    omega
  | b :: bs, k, v, w, x, X, N, i, st, e, hc, h, he => by
    have ht := thr_bound k bias
    have hdb := dval_bound b
    by_cases hd : dval b < 0
    · rw [runD.eq_def] at h
      simp only [if_pos hd] at h
      have : e = 110 := by injection h with h1 h2; exact h2.symm
      omega
    · have hdig := dig_dval (show 0 ≤ dval b by omega) (hc b (by simp))
      rw [runD_cons _ _ _ _ _ _ _ _ _ _ _ (by omega)] at h
      by_cases htd : thr k bias ≤ dval b
      · rw [if_pos htd] at h
        obtain ⟨m, rest, hm0, hm⟩ := read_inv bias bs (k + 1) _ _ x X N i st e (fun b' hb' => hc b' (by simp [hb'])) h he
        refine ⟨dval b + (36 - thr k bias) * m, rest, ?_, fun F hF => ?_⟩
        · have := Int.mul_nonneg (show 0 ≤ 36 - thr k bias by omega) hm0
          omega
        · rw [List.length_cons] at hF
          obtain ⟨F, rfl⟩ : ∃ q, F = q + 1 := ⟨F - 1, by omega⟩
          have hm1 := hm F (by omega)
          unfold numL
          have hmul := Int.mul_nonneg (show 0 ≤ 36 - thr k bias by omega) hm0
          rw [if_neg (by omega)]
          have e1 : dval b + (36 - thr k bias) * m - thr k bias = (dval b - thr k bias) + (36 - thr k bias) * m := by omega
          rw [e1, Int.add_mul_ediv_left _ _ (show 36 - thr k bias ≠ 0 by omega), Int.add_mul_emod_self_left, Int.emod_eq_of_lt (by omega) (by omega), Int.ediv_eq_zero_of_lt (by omega) (by omega), Int.zero_add, show thr k bias + (dval b - thr k bias) = dval b by omega, hdig, List.cons_append, ← hm1]
      · refine ⟨dval b, bs, by omega, fun F hF => ?_⟩
        rw [List.length_cons] at hF
        obtain ⟨F, rfl⟩ : ∃ q, F = q + 1 := ⟨F - 1, by omega⟩
        unfold numL
        rw [if_pos (by omega), hdig]
        rfl
theorem runD_fresh (b : Int) (bs X : List Int) (N i bias st k v w : Int) : runD (b :: bs) X N i bias st k v w true = runD (b :: bs) X N i bias st k v w false := by
  rw [runD.eq_def, runD.eq_def (b :: bs)]
theorem read_step (bias : Int) (bs X x : List Int) (N i st : Int) (hbs : bs ≠ []) (hl : bs.length ≤ 1000) (hc : ∀ b ∈ bs, ¬ (65 ≤ b ∧ b ≤ 90)) (h : runD bs X N i bias st 1 0 1 true = (x, 0)) :
    ∃ (d : Int) (rest : List Int), 0 ≤ d ∧ d ≤ 2147483647 ∧ bs = numL 20 d bias 1 ++ rest ∧ finD rest X N i bias st d = (x, 0) := by
  obtain ⟨b, bs', rfl⟩ : ∃ b bs', bs = b :: bs' := by cases bs with | nil => exact absurd rfl hbs | cons b bs' => exact ⟨b, bs', rfl⟩
  have h1 := h
  rw [runD_fresh] at h1
  obtain ⟨m, rest, hm0, hm⟩ := read_inv bias (b :: bs') 1 0 1 x X N i st 0 hc h1 rfl
  -- with as many rounds as there are, and as the number wants
  obtain ⟨f, hf⟩ : ∃ f : Nat, m < 10 ^ f := ⟨m.toNat, by
    have h2 : m.toNat < 10 ^ m.toNat := Nat.lt_pow_self (by omega)
    have h3 : ((m.toNat : Nat) : Int) < ((10 ^ m.toNat : Nat) : Int) := by exact_mod_cast h2
    rw [Int.natCast_pow] at h3
    have h4 : ((m.toNat : Nat) : Int) = m := by omega
    rw [h4] at h3
    exact h3⟩
  have hb := hm ((b :: bs').length + f + 1) (by omega)
  have h2 := read_num bias f m hm0 hf ((b :: bs').length + f + 1) (by omega) 0 1 1 rest X N i st true (by omega) (by omega)
  rw [show min (0 : Int) 2147483648 = 0 by decide, show min (1 : Int) 2147483648 = 1 by decide, Int.zero_add, Int.mul_one, ← hb, h] at h2
  have hle : m ≤ 2147483647 := by
    by_cases hle : m ≤ 2147483647
    · exact hle
    · exfalso
      unfold finD at h2
      rw [if_pos (by omega)] at h2
      injection h2 with h3 h4
      omega
  refine ⟨m, rest, hm0, hle, ?_, ?_⟩
  · have hb2 := hm ((b :: bs').length + 20) (by omega)
    rw [numL_fuel 18 m hm0 (by omega) ((b :: bs').length + 20) 20 (by omega) (by omega)] at hb2
    exact hb2
  · rw [show min m 2147483648 = m by omega] at h2
    exact h2.symm

/-! ### The steps that were read are those that Encode takes -/
theorem place_of {T : Nat → Bool} {q : Nat} : ∀ b, q < cnt T b → ∃ a, a < b ∧ T a = true ∧ cnt T a = q
  | 0, h => by simp [cnt] at h
  | b + 1, h => by
    simp only [cnt] at h
    by_cases h1 : q < cnt T b
    · obtain ⟨a, h2, h3, h4⟩ := place_of b h1
      exact ⟨a, by omega, h3, h4⟩
    · by_cases hb : T b = true
      · rw [if_pos hb] at h
        exact ⟨b, by omega, hb, by omega⟩
      · rw [if_neg hb] at h; omega
def sub1 (T : Nat → Bool) (a : Nat) : Nat → Bool := fun j => T j && !decide (j = a)
theorem add1_sub1 {T : Nat → Bool} {a : Nat} (h : T a = true) : add1 (sub1 T a) a = T := by
  funext j
  simp only [add1, sub1]
  by_cases hj : j = a
  · subst hj; simp [h]
  · simp [hj]
theorem take_drop_inj {α : Type} {A B : List α} {q : Nat} {c d : α} (hA : q ≤ A.length) (hB : q ≤ B.length) (h : A.take q ++ c :: A.drop q = B.take q ++ d :: B.drop q) : c = d ∧ A = B := by
  have h1 := List.append_inj h (by rw [List.length_take, List.length_take]; omega)
  have h2 := List.cons.inj h1.2
  refine ⟨h2.1, ?_⟩
  rw [← List.take_append_drop q A, ← List.take_append_drop q B, h1.1, h2.2]

/-- From a state on: the final sequence x, what of it stands at first, and the places of the others, in the order in which they come. -/
structure Read (bs X x : List Int) (n i bias st : Int) : Prop where
  valid : ∀ y ∈ x, validI y = true
  len : X.length ≤ x.length ∧ x.length ≤ X.length + bs.length
  places : ∃ (T : Nat → Bool) (R : List Nat), sel x T x.length = X ∧ (∀ j, T j = true → j < x.length) ∧ (∀ a ∈ R, a < x.length ∧ T a = false) ∧ (∀ j, j < x.length → T j = true ∨ j ∈ R) ∧ R.Pairwise (ltP x) ∧
    (∀ a ∈ R, n < rd x a ∨ (n = rd x a ∧ i ≤ cnt T a)) ∧
    ∀ c b, Fen c x.length T → b.length + 20 * R.length ≤ 1000000 → encB x (R.map (fun a : Nat => (a : Int))) b c (cnt T x.length) n i bias st = some (strOfNums (b ++ bs), 0)

set_option maxHeartbeats 1000000 in
theorem read_all : ∀ (m : Nat) (bs X x : List Int) (n i bias st : Int), bs.length ≤ m → bs.length ≤ 1000 → X.length + bs.length ≤ 3000 → (∀ b ∈ bs, ¬ (65 ≤ b ∧ b ≤ 90)) → (∀ y ∈ X, validI y = true) → 0 ≤ n → n ≤ 1114111 → 0 ≤ i → i ≤ X.length → 0 ≤ bias → bias ≤ 800 → 0 ≤ st → st ≤ X.length →
    runD bs X n i bias st 1 0 1 true = (x, 0) → Read bs X x n i bias st := by
  have base : ∀ (X x : List Int) (n i bias st : Int), (∀ y ∈ X, validI y = true) → runD [] X n i bias st 1 0 1 true = (x, 0) → Read [] X x n i bias st := by
    intro X x n i bias st hX h
    have hx : X = x := by
      simp only [runD, if_true] at h
      injection h
    subst hx
    refine ⟨hX, by simp, (fun j => decide (j < X.length)), [], sel_all (fun j hj => decide_eq_true hj), fun j hj => of_decide_eq_true hj, by simp, fun j hj => .inl (decide_eq_true hj), by simp, by simp, fun c b _ _ => by simp [encB]⟩
  intro m
  induction m with
  | zero =>
    intro bs X x n i bias st hm h1000 hXl hc hX hn0 hn1 hi0 hi1 hb0 hb1 hs0 hs1 h
    obtain rfl : bs = [] := List.eq_nil_of_length_eq_zero (by omega)
    exact base X x n i bias st hX h
  | succ m ih =>
    intro bs X x n i bias st hm h1000 hXl hc hX hn0 hn1 hi0 hi1 hb0 hb1 hs0 hs1 h
    by_cases hbs : bs = []
    · subst hbs
      exact base X x n i bias st hX h
    obtain ⟨d, rest, hd0, hd1, hsplit, hfin⟩ := read_step bias bs X x n i st hbs h1000 hc h
    have hne : 0 < (numL 20 d bias 1).length := by unfold numL; split <;> simp
    have hbl := congrArg List.length hsplit
    rw [List.length_append] at hbl
    unfold finD at hfin
    rw [if_neg (by omega)] at hfin
    have hq0 : 0 ≤ (i + d) % ((X.length : Int) + 1) := Int.emod_nonneg _ (by omega)
    have hq1 : (i + d) % ((X.length : Int) + 1) < X.length + 1 := Int.emod_lt_of_pos _ (by omega)
    have hdiv0 : 0 ≤ (i + d) / ((X.length : Int) + 1) := Int.ediv_nonneg (by omega) (by omega)
    have hdm := Int.mul_ediv_add_emod (i + d) ((X.length : Int) + 1)
    have had := adaptI_bound d ((X.length : Int) + 1) (st == 0)
    have hadf := adapt_f d ((X.length : Int) + 1) (st == 0) (by omega) (by omega) 60 (by omega)
    have hwr := fun b (hb : b.length ≤ 1000000000000) => number_f b d bias hb0 hb1 hd0 (by omega) hb 60 (by omega)
    have hnl := numL_length 20 d bias 1
    obtain ⟨z, hz⟩ : ∃ z, (i + d) / ((X.length : Int) + 1) = z := ⟨_, rfl⟩
    obtain ⟨q, hq⟩ : ∃ q : Nat, (i + d) % ((X.length : Int) + 1) = q := ⟨((i + d) % ((X.length : Int) + 1)).toNat, by omega⟩
    obtain ⟨ad, hade⟩ : ∃ ad, adaptI d ((X.length : Int) + 1) (st == 0) = ad := ⟨_, rfl⟩
    obtain ⟨L, hL⟩ : ∃ L, numL 20 d bias 1 = L := ⟨_, rfl⟩
    rw [hz, hq, hade] at hfin
    rw [hz] at hdiv0
    rw [hz, hq] at hdm
    rw [hq] at hq0 hq1
    rw [hade] at had hadf
    rw [hL] at hne hbl hnl hsplit hwr
    have HZ := Aside0.mk hz
    have HQ := Aside0.mk hq
    clear hz hq hade hL
    by_cases hcv : n + z ≤ 1114111 ∧ validI (n + z) = true
    case neg =>
      rw [if_neg hcv] at hfin
      injection hfin with h1 h2
      omega
    rw [if_pos hcv, Int.toNat_natCast] at hfin
    have hX1l : (X.take q ++ (n + z) :: X.drop q).length = X.length + 1 := by simp; omega
    have hX1 : ∀ y ∈ X.take q ++ (n + z) :: X.drop q, validI y = true := fun y hy => by
      rcases List.mem_append.1 hy with hy | hy
      · exact hX y (List.mem_of_mem_take hy)
      · rcases List.mem_cons.1 hy with hy | hy
        · rw [hy]; exact hcv.2
        · exact hX y (List.mem_of_mem_drop hy)
    have IH := ih rest (X.take q ++ (n + z) :: X.drop q) x (n + z) (q + 1) ad (st + 1) (by omega) (by omega) (by rw [hX1l]; omega) (fun b hb => hc b (by rw [hsplit]; exact List.mem_append_right _ hb)) hX1 (by omega) hcv.1 (by omega) (by rw [hX1l]; omega) had.1 had.2 (by omega) (by rw [hX1l]; omega) hfin
    obtain ⟨T', R', h1, h2, h3, h4, h5, h6, h7⟩ := IH.places
    have hlen := IH.len
    rw [hX1l] at hlen
    have hcT : cnt T' x.length = X.length + 1 := by rw [← sel_length x T', h1, hX1l]
    obtain ⟨a, ha, hTa, hca⟩ := place_of (T := T') (q := q) x.length (by omega)
    have hsub := add1_sub1 hTa
    have hTf : sub1 T' a a = false := by simp [sub1]
    have hca2 : ∀ b, cnt T' b = cnt (sub1 T' a) b + if a < b then 1 else 0 := fun b => by
      have := cnt_add1 hTf b
      rw [hsub] at this
      exact this
    have hcq : cnt (sub1 T' a) a = q := by
      have := hca2 a
      rw [if_neg (by omega)] at this
      omega
    have hcN : cnt (sub1 T' a) x.length = X.length := by
      have := hca2 x.length
      rw [if_pos ha] at this
      omega
    have hins := sel_add1 (l := x) hTf x.length ha
    rw [hsub, h1, hcq] at hins
    obtain ⟨hcx, hXe⟩ := take_drop_inj (by omega) (by rw [sel_length, hcN]; omega) hins
    have hdd : d = (n + z - n) * ((X.length : Int) + 1) + q - i := by
      rw [show n + z - n = z by omega, Int.mul_comm]
      omega
    refine ⟨IH.valid, ⟨by omega, by omega⟩, sub1 T' a, a :: R', hXe.symm, fun j hj => h2 j ?_, ?_, fun j hj => ?_, ?_, ?_, ?_⟩
    · simp only [sub1, Bool.and_eq_true] at hj
      exact hj.1
    · intro a2 ha2
      rcases List.mem_cons.1 ha2 with rfl | ha2
      · exact ⟨ha, hTf⟩
      · exact ⟨(h3 a2 ha2).1, by simp [sub1, (h3 a2 ha2).2]⟩
    · rcases h4 j hj with h8 | h8
      · by_cases hja : j = a
        · exact .inr (by simp [hja])
        · exact .inl (by simp [sub1, h8, hja])
      · exact .inr (by simp [h8])
    · rw [List.pairwise_cons]
      refine ⟨fun a2 ha2 => ?_, h5⟩
      unfold ltP
      rw [← hcx]
      rcases h6 a2 ha2 with h8 | ⟨h8, h9⟩
      · exact .inl h8
      · refine .inr ⟨h8, ?_⟩
        rcases Nat.lt_or_ge a a2 with h10 | h10
        · exact h10
        · have := cnt_mono (T := T') h10
          omega
    · have hzn : n < n + z ∨ (n = n + z ∧ i ≤ q) := by
        rcases Int.lt_or_le 0 z with h8 | h8
        · exact .inl (by omega)
        · have : z = 0 := by omega
          subst this
          refine .inr ⟨by omega, ?_⟩
          rw [Int.mul_zero] at hdm
          omega
      intro a2 ha2
      rcases List.mem_cons.1 ha2 with rfl | ha2
      · rw [← hcx, hcq]
        exact hzn
      · have h10 := hca2 a2
        rcases h6 a2 ha2 with h8 | ⟨h8, h9⟩
        · exact .inl (by omega)
        · rcases hzn with h11 | ⟨h11, h12⟩
          · exact .inl (by omega)
          · refine .inr ⟨by omega, ?_⟩
            split at h10 <;> omega
    · intro c b hF hbb
      rw [List.length_cons] at hbb
      have hFl := hF.len
      have hah := hF.ahead (a := a) (by omega) (c.length + 5) (by omega)
      obtain ⟨c1, ht1, hF1⟩ := hF.take ha hTf (c.length + 5) (by omega)
      rw [hsub] at hF1
      have hc1 : c1.length = c.length := by rw [hF1.len, hF.len]
      rw [hcq] at hah
      have h8 := h7 c1 (b ++ L) hF1 (by rw [List.length_append]; omega)
      rw [hcT] at h8
      rw [hcN, List.map_cons, hsplit, ← List.append_assoc]
      have hdO : dOf (rd x a) n X.length q i = d := by
        rw [← hcx]
        have hm0 : 0 ≤ (n + z - n) * ((X.length : Int) + 1) := by rw [show n + z - n = z by omega]; exact Int.mul_nonneg (by omega) (by omega)
        have hm1 : (n + z - n) * ((X.length : Int) + 1) ≤ 1114111 * 3001 := by rw [show n + z - n = z by omega]; exact Int.mul_le_mul (by omega) (by omega) (by omega) (by omega)
        unfold dOf
        rw [wrap64_id (n := n + z) (by omega) (by omega), wrap64_id (n := n + z - n) (by omega) (by omega), wrap64_id (n := (n + z - n) * ((X.length : Int) + 1)) (by omega) (by omega), wrap64_id (n := (n + z - n) * ((X.length : Int) + 1) + q) (by omega) (by omega), wrap64_id (by omega) (by omega)]
        omega
      have hok : okB X.length n i bias st = true := by
        unfold okB
        simp only [Bool.and_eq_true, decide_eq_true_eq]
        omega
      refine encB_some hah hok hdO hd0 (by omega) (hwr b (by omega)) hadf ht1 ⟨hc1, by rw [List.length_append]; omega⟩ ?_
      rw [HZ.out, HQ.out, show (X.length : Int) + 1 = ((X.length + 1 : Nat) : Int) by omega]
      exact h8
end Go.Proofs.Yticocjpfhllelaa.Pure
