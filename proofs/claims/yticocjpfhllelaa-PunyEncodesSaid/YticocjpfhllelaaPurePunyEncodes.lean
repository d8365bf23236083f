/- In plain Lean: Encode is the document's, at any numbers. -/
import Derived.Test.YticocjpfhllelaaEPEnc
import Derived.Test.YticocjpfhllelaaERStep
import Derived.Test.YticocjpfhllelaaPP6
set_option linter.unusedVariables false
set_option linter.unusedSimpArgs false
namespace Go.Proofs.Yticocjpfhllelaa.Pure
open Go.RowKit Go.Proofs.Yticocjpfhllelaa.XP Go.Proofs.StableSort Go.Proofs.YticocjpfhllelaaW.PrintWords Go.Proofs.YticocjpfhllelaaW.PrintLast

theorem rdigit_all : ∀ m : Fin 36, endonymref11_digit.f ((m.val : Nat) : Int) = some (dig ((m.val : Nat) : Int)) := by decide
theorem rdigit_f {d : Int} (h0 : 0 ≤ d) (h1 : d < 36) : endonymref11_digit.f d = some (dig d) := by
  obtain ⟨m, rfl⟩ := Int.eq_ofNat_of_zero_le h0
  exact rdigit_all ⟨m, by omega⟩
theorem rnumber_l0 (bias : Int) (hb0 : 0 ≤ bias) (hb1 : bias ≤ 800) : ∀ (f : Nat) (n k : Int) (s : ByteArray), 0 ≤ n → n < 10 ^ f → n ≤ 9000000000000000000 → 1 ≤ k → k + f ≤ 10000 → s.size + f ≤ 10000000000000 → ∀ F K, f < F → f < K →
    endonymref11_number.l0 K n bias s k = some (s ++ strOfNums (numL F n bias k))
  | f, n, k, s, h0, h1, hbig, hk0, hk1, hl, F, K, hF, hK => by
    obtain ⟨K, rfl⟩ : ∃ q, K = q + 1 := ⟨K - 1, by omega⟩
    obtain ⟨F, rfl⟩ : ∃ q, F = q + 1 := ⟨F - 1, by omega⟩
    simp only [endonymref11_number.l0]
    rw [show endonymref11_Threshold.f k bias = some (thr k bias) from thr_f k bias (by omega) (by omega) (by omega) (by omega)]
    unfold numL
    have ht := thr_bound k bias
    generalize thr k bias = t at ht
    simp only [Option.bind_some]
    by_cases hn : n < t
    · rw [if_pos hn, if_pos hn, rdigit_f h0 (by omega)]
      simp only [Option.bind_some]
      rw [strOfNums_size, if_pos (by simp; omega)]
    · rw [if_neg hn, if_neg hn]
      cases f with
      | zero => simp at h1; omega
      | succ f =>
        rw [Int.pow_succ] at h1
        have hx := num_next ht.1 ht.2 hn _ h1 (Int.pow_nonneg (by omega))
        rw [wrap64_id (n := 36 - t) (by omega) (by omega), if_neg (by omega), wrap64_id (n := n - t) (by omega) (by omega), tdiv_pos (show 0 ≤ n - t by omega), Int.tmod_eq_emod_of_nonneg (show 0 ≤ n - t by omega)]
        generalize (n - t) / (36 - t) = q at hx ⊢
        generalize (n - t) % (36 - t) = m at hx ⊢
        rw [wrap64_id (n := t + m) (by omega) (by omega), rdigit_f (by omega) (by omega), wrap64_id (n := q) (by omega) (by omega), wrap64_id (n := k + 1) (by omega) (by omega)]
        simp only [Option.bind_some]
        rw [strOfNums_size, if_pos (by simp; omega), rnumber_l0 bias hb0 hb1 f q (k + 1) _ hx.1 hx.2.1 (by omega) (by omega) (by omega) (by rw [ByteArray.size_append, strOfNums_size]; simp; omega) F K (by omega) (by omega)]
        have e5 : strOfNums (dig (t + m) :: numL F q bias (k + 1)) = strOfNums [dig (t + m)] ++ strOfNums (numL F q bias (k + 1)) := strOfNums_append [dig (t + m)] _
        rw [e5, ByteArray.append_assoc]

theorem rsound_l0 (l : List Int) (hN : l.length ≤ 1000000000) : ∀ (m i : Nat), i + m = l.length → ∀ K, m < K → endonymref3_Sound.l0 K l i = some (decide (∀ x ∈ l.drop i, validI x = true))
  | 0, i, h, K, hK => by
    obtain ⟨K, rfl⟩ : ∃ q, K = q + 1 := ⟨K - 1, by omega⟩
    simp only [endonymref3_Sound.l0]
    rw [if_neg (by omega), List.drop_eq_nil_of_le (by omega)]
    simp
  | m + 1, i, h, K, hK => by
    obtain ⟨K, rfl⟩ : ∃ q, K = q + 1 := ⟨K - 1, by omega⟩
    simp only [endonymref3_Sound.l0]
    have e1 : wrap64 ((i : Int) + 1) = ((i + 1 : Nat) : Int) := by rw [wrap64_id (by omega) (by omega)]; omega
    have hi : i < l.length := by omega
    rw [if_pos (by omega), if_pos (by omega), valid3_f, e1, List.drop_eq_getElem_cons hi, ← rd_at l hi]
    simp only [Option.bind_some]
    by_cases hv : validI (rd l i) = true
    · rw [if_pos hv, rsound_l0 l hN m (i + 1) (by omega) K (by omega)]
      simp [hv]
    · rw [if_neg hv]
      simp [hv]

theorem encB_over {l t b c : List Int} {a p n i bias st h d : Int} (hh : puny_counts_ahead.f (c.length + 5) c a = some h) (hok : okB p n i bias st = true) (hd : dOf (rd l a) n p h i = d) (h1 : 2147483647 < d) : encB l (a :: t) b c p n i bias st = some (⟨#[]⟩, 113) := by
  subst hd
  rw [encB, hh, Option.bind_some, if_pos hok, if_pos h1]

/-- The least of what is left. -/
theorem least (l : List Int) (hv : ∀ x ∈ l, validI x = true) (hN : l.length ≤ 2000) (s : ByteArray) (h n delta bias : Int) (first : Bool) : ∀ (q i : Nat) (acc : Int), i + q = l.length → ∃ m : Int, m ≤ acc ∧ (∀ j : Nat, i ≤ j → j < l.length → n ≤ rd l j → m ≤ rd l j) ∧ (m = acc ∨ ∃ j : Nat, i ≤ j ∧ j < l.length ∧ rd l j = m ∧ n ≤ m) ∧
    ∀ K, endonymref11_Encode.l2 (q + 1 + K) l s h n delta bias first acc i = endonymref11_Encode.l3 K l s h m (wrap64 (delta + wrap64 (wrap64 (m - n) * wrap64 (h + 1)))) bias first 0 := by
  intro q
  induction q with
  | zero =>
    intro i acc hi
    refine ⟨acc, Int.le_refl _, fun j h1 h2 => by omega, .inl rfl, fun K => ?_⟩
    rw [show 0 + 1 + K = K + 1 by omega]
    simp only [endonymref11_Encode.l2]
    rw [if_neg (by omega)]
  | succ q ih =>
    intro i acc hi
    have hil : i < l.length := by omega
    have hva := validI_at hv hil
    have e1 : wrap64 ((i : Int) + 1) = ((i + 1 : Nat) : Int) := by rw [wrap64_id (by omega) (by omega)]; omega
    by_cases hn : rd l i ≥ n
    · obtain ⟨m, h1, h2, h3, h4⟩ := ih (i + 1) (min acc (rd l i)) (by omega)
      refine ⟨m, by omega, fun j hj1 hj2 hj3 => ?_, ?_, fun K => ?_⟩
      · by_cases hji : j = i
        · subst hji; omega
        · exact h2 j (by omega) hj2 hj3
      · rcases h3 with h3 | ⟨j, hj1, hj2, hj3⟩
        · by_cases hmin : acc ≤ rd l i
          · exact .inl (by omega)
          · exact .inr ⟨i, Nat.le_refl _, hil, by omega, by omega⟩
        · exact .inr ⟨j, by omega, hj2, hj3⟩
      · rw [show q + 1 + 1 + K = (q + 1 + K) + 1 by omega]
        simp only [endonymref11_Encode.l2]
        rw [if_pos (by omega), if_pos (by omega), wrap64_id (n := rd l i) (by omega) (by omega), if_pos hn, mn_min, e1, h4 K]
    · obtain ⟨m, h1, h2, h3, h4⟩ := ih (i + 1) acc (by omega)
      refine ⟨m, h1, fun j hj1 hj2 hj3 => ?_, ?_, fun K => ?_⟩
      · by_cases hji : j = i
        · subst hji; omega
        · exact h2 j (by omega) hj2 hj3
      · rcases h3 with h3 | ⟨j, hj1, hj2, hj3⟩
        · exact .inl h3
        · exact .inr ⟨j, by omega, hj2, hj3⟩
      · rw [show q + 1 + 1 + K = (q + 1 + K) + 1 by omega]
        simp only [endonymref11_Encode.l2]
        rw [if_pos (by omega), if_pos (by omega), wrap64_id (n := rd l i) (by omega) (by omega), if_neg hn, e1, h4 K]

/-- What is taken at a level n, ahead of the place i. -/
def levT (l : List Int) (n : Int) (i : Nat) : Nat → Bool := fun j => decide (j < l.length) && (decide (rd l j < n) || (decide (rd l j = n) && decide (j < i)))

structure Lev (l : List Int) (R : List Nat) (n : Int) (i : Nat) (b c : List Int) (nB iB bias st : Int) : Prop where
  fen : Fen c l.length (levT l n i)
  mem : ∀ a, a ∈ R ↔ a < l.length ∧ levT l n i a = false
  sorted : R.Pairwise (ltP l)
  nB0 : 0 ≤ nB
  nB1 : nB ≤ n
  nB2 : nB ≤ 1114111
  iB0 : 0 ≤ iB
  iB1 : iB ≤ cnt (levT l n i) l.length
  b0 : 0 ≤ bias
  b1 : bias ≤ 800
  s0 : 0 ≤ st
  s1 : st ≤ 3000 - R.length
  bl : b.length + 20 * R.length ≤ 1000000
  RN : R.length ≤ l.length
  dpos : 0 ≤ (n - nB) * (cnt (levT l n i) l.length + 1) + cnt (levT l n i) i - iB

def deltaL (l : List Int) (n : Int) (i : Nat) (nB iB : Int) : Int := (n - nB) * ((cnt (levT l n i) l.length : Int) + 1) + cnt (levT l n i) i - iB

theorem cnt_congr {T T' : Nat → Bool} : ∀ b, (∀ j, j < b → T j = T' j) → cnt T b = cnt T' b
  | 0, _ => rfl
  | b + 1, h => by simp only [cnt, cnt_congr b (fun j hj => h j (by omega)), h b (by omega)]
theorem levT_skip {l : List Int} {n : Int} {i : Nat} (h : rd l i ≠ n) : levT l n (i + 1) = levT l n i := by
  funext j
  simp only [levT]
  by_cases hj : j = i
  · subst hj; simp [h]
  · have : decide (j < i + 1) = decide (j < i) := by congr 1; apply propext; omega
    rw [this]
theorem levT_take {l : List Int} {n : Int} {i : Nat} (h : rd l i = n) (hi : i < l.length) : levT l n (i + 1) = add1 (levT l n i) i ∧ levT l n i i = false := by
  refine ⟨?_, by simp [levT, h]⟩
  funext j
  simp only [levT, add1]
  by_cases hj : j = i
  · subst hj; simp [h, hi]
  · have : decide (j < i + 1) = decide (j < i) := by congr 1; apply propext; omega
    rw [this]; simp [hj]
theorem levT_end (l : List Int) (n : Int) : levT l n l.length = levT l (n + 1) 0 := by
  funext j
  simp only [levT]
  by_cases hj : j < l.length
  · have : (decide (rd l j < n) || (decide (rd l j = n) && decide (j < l.length))) = (decide (rd l j < n + 1) || (decide (rd l j = n + 1) && decide (j < 0))) := by
      rcases Int.lt_trichotomy (rd l j) n with h | h | h
      · simp [h]; omega
      · simp [h, hj]; omega
      · have h1 : ¬ rd l j < n := by omega
        have h2 : ¬ rd l j = n := by omega
        have h3 : ¬ rd l j < n + 1 := by omega
        simp [h1, h2, h3]
    rw [this]
  · simp [hj]
theorem levT_up {l : List Int} {n m : Int} (hnm : n ≤ m) (h : ∀ j : Nat, j < l.length → n ≤ rd l j → m ≤ rd l j) : levT l m 0 = levT l n 0 := by
  funext j
  simp only [levT, Nat.not_lt_zero, decide_false, Bool.and_false, Bool.or_false]
  by_cases hj : j < l.length
  · have : decide (rd l j < m) = decide (rd l j < n) := by
      congr 1; apply propext
      have := h j hj
      omega
    rw [this]
  · simp [hj]

theorem cnt_all {T : Nat → Bool} : ∀ b, (∀ j, j < b → T j = true) → cnt T b = b
  | 0, _ => rfl
  | b + 1, h => by simp only [cnt, cnt_all b (fun j hj => h j (by omega)), h b (by omega), if_true]
theorem cnt_lt {T : Nat → Bool} {a : Nat} (ha : T a = false) : ∀ b, a < b → cnt T b < b
  | 0, h => by omega
  | b + 1, h => by
    simp only [cnt]
    by_cases hab : a = b
    · subst hab
      have := cnt_le T a
      rw [ha]; simp; omega
    · have := cnt_lt ha b (by omega)
      split <;> omega

/-- One level is enough for all: the document's first loop, with at most r places left. -/
def RefL1 (l : List Int) (r : Nat) : Prop := ∀ (R : List Nat) (n : Int) (b c : List Int) (nB iB bias st : Int), R.length ≤ r → Lev l R n 0 b c nB iB bias st → n ≤ 1114112 → ∀ K, r * (4 * l.length + 40) + 100 ≤ K →
  endonymref11_Encode.l1 K l (strOfNums b) (cnt (levT l n 0) l.length) n (deltaL l n 0 nB iB) bias (st == 0) = encB l (R.map (fun a : Nat => (a : Int))) b c (cnt (levT l n 0) l.length) nB iB bias st

set_option maxHeartbeats 1000000 in
theorem ref_l3 (l : List Int) (hv : ∀ x ∈ l, validI x = true) (hN : l.length ≤ 2000) (r : Nat) (IH : RefL1 l r) (n : Int) (hn1 : n ≤ 1114111) : ∀ (m i : Nat), i + m = l.length → ∀ (R : List Nat) (b c : List Int) (nB iB bias st : Int), Lev l R n i b c nB iB bias st →
    R.length ≤ r + 1 → (R.length ≤ r ∨ ∃ j : Nat, i ≤ j ∧ j < l.length ∧ rd l j = n) → ∀ K, r * (4 * l.length + 40) + 100 + 2 * m + 30 ≤ K →
    endonymref11_Encode.l3 K l (strOfNums b) (cnt (levT l n i) l.length) n (deltaL l n i nB iB) bias (st == 0) i = encB l (R.map (fun a : Nat => (a : Int))) b c (cnt (levT l n i) l.length) nB iB bias st := by
  intro m
  induction m with
  | zero =>
    intro i hi R b c nB iB bias st hL hRr hex K hK
    obtain ⟨K, rfl⟩ : ∃ q, K = q + 1 := ⟨K - 1, by omega⟩
    obtain rfl : i = l.length := by omega
    have hR : R.length ≤ r := by
      rcases hex with h | ⟨j, h1, h2, _⟩
      · exact h
      · omega
    have hcl := cnt_le (levT l n l.length) l.length
    have hm0 : 0 ≤ (n - nB) * ((cnt (levT l n l.length) l.length : Int) + 1) := Int.mul_nonneg (by have := hL.nB1; omega) (by omega)
    have hm1 : (n - nB) * ((cnt (levT l n l.length) l.length : Int) + 1) ≤ 1114111 * 2001 := Int.mul_le_mul (by have := hL.nB0; omega) (by omega) (by omega) (by omega)
    have e0 := levT_end l n
    have ed : deltaL l (n + 1) 0 nB iB = deltaL l n l.length nB iB + 1 := by
      unfold deltaL
      rw [← e0, show n + 1 - nB = (n - nB) + 1 by omega, Int.add_mul]
      simp only [cnt]
      omega
    have hL1 : Lev l R (n + 1) 0 b c nB iB bias st := by
      refine ⟨e0 ▸ hL.fen, fun a => by rw [← e0]; exact hL.mem a, hL.sorted, hL.nB0, by have := hL.nB1; omega, hL.nB2, hL.iB0, by rw [← e0]; exact hL.iB1, hL.b0, hL.b1, hL.s0, hL.s1, hL.bl, hL.RN, ?_⟩
      have h1 := hL.dpos
      have h2 := ed
      unfold deltaL at h2
      omega
    have hd := hL.dpos
    have hi0 := hL.iB0
    have hi1 := hL.iB1
    have hnB := hL.nB1
    have hnB0 := hL.nB0
    simp only [endonymref11_Encode.l3]
    rw [if_neg (by omega), wrap64_id (n := n + 1) (by omega) (by omega)]
    have ew : wrap64 (deltaL l n l.length nB iB + 1) = deltaL l (n + 1) 0 nB iB := by
      rw [ed]
      refine wrap64_id ?_ ?_
      · unfold deltaL; omega
      · unfold deltaL; omega
    rw [ew, e0]
    exact IH R (n + 1) b c nB iB bias st hR hL1 (by omega) K (by omega)
  | succ m ih =>
    intro i hi R b c nB iB bias st hL hRr hex K hK
    obtain ⟨K, rfl⟩ : ∃ q, K = q + 2 := ⟨K - 2, by omega⟩
    have hil : i < l.length := by omega
    have hva := validI_at hv hil
    have e1 : wrap64 ((i : Int) + 1) = ((i + 1 : Nat) : Int) := by rw [wrap64_id (by omega) (by omega)]; omega
    have hcl := cnt_le (levT l n i) l.length
    have hci : cnt (levT l n i) i ≤ cnt (levT l n i) l.length := cnt_mono (by omega)
    have hd := hL.dpos
    have hi0 := hL.iB0
    have hi1 := hL.iB1
    have hnB := hL.nB1
    have hnB0 := hL.nB0
    have hm0 : 0 ≤ (n - nB) * ((cnt (levT l n i) l.length : Int) + 1) := Int.mul_nonneg (by omega) (by omega)
    have hm1 : (n - nB) * ((cnt (levT l n i) l.length : Int) + 1) ≤ 1114111 * 2001 := Int.mul_le_mul (by omega) (by omega) (by omega) (by omega)
    have hcs : cnt (levT l n i) (i + 1) = cnt (levT l n i) i + if levT l n i i = true then 1 else 0 := rfl
    simp only [endonymref11_Encode.l3]
    rw [if_pos (by omega), if_pos (by omega), wrap64_id (n := rd l i) (by omega) (by omega)]
    by_cases heq : rd l i = n
    · -- it is written
      rw [if_neg (by omega)]
      obtain ⟨hT, hTf⟩ := levT_take heq hil
      obtain ⟨R', rfl⟩ : ∃ R', R = i :: R' := by
        have hiR : i ∈ R := (hL.mem i).2 ⟨hil, hTf⟩
        have hs := hL.sorted
        have hm := hL.mem
        cases R with
        | nil => simp at hiR
        | cons b0 R' =>
          by_cases hb0 : b0 = i
          · exact ⟨R', by rw [hb0]⟩
          · exfalso
            have hb := (hm b0).1 (by simp)
            rw [List.pairwise_cons] at hs
            have hlt := hs.1 i (by rcases List.mem_cons.1 hiR with h | h; exact absurd h.symm hb0; exact h)
            have hf := hb.2
            simp only [levT, hb.1, decide_true, Bool.true_and, Bool.or_eq_false_iff, Bool.and_eq_false_iff, decide_eq_false_iff_not] at hf
            unfold ltP at hlt
            omega
      have hsort := hL.sorted
      rw [List.pairwise_cons] at hsort
      have hmem := hL.mem
      have hFl := hL.fen.len
      have hah := hL.fen.ahead (a := i) (by omega) (c.length + 5) (by omega)
      obtain ⟨c1, ht1, hF1⟩ := hL.fen.take hil hTf (c.length + 5) (by omega)
      rw [← hT] at hF1
      have hc1 : c1.length = c.length := by rw [hF1.len, hFl]
      have hcT := cnt_add1 hTf
      rw [← hT] at hcT
      have hcTN := hcT l.length
      rw [if_pos hil] at hcTN
      have hcTi := hcT (i + 1)
      rw [if_pos (by omega), hcs, hTf] at hcTi
      simp only [Bool.false_eq_true, if_false] at hcTi
      have hbl := hL.bl
      rw [List.length_cons] at hbl hRr
      have hs0 := hL.s0
      have hs1 := hL.s1
      have hRN := hL.RN
      rw [List.length_cons] at hs1 hRN
      have hnB2 := hL.nB2
      have hb0 := hL.b0
      have hb1 := hL.b1
      have hiR' : ∀ a, a ∈ R' ↔ a < l.length ∧ levT l n (i + 1) a = false := fun a => by
        have h1 := hmem a
        rw [hT]
        simp only [add1, Bool.or_eq_false_iff, decide_eq_false_iff_not]
        constructor
        · intro ha
          have h2 := h1.1 (by simp [ha])
          refine ⟨h2.1, h2.2, fun e => ?_⟩
          have := hsort.1 a ha
          unfold ltP at this
          rw [e] at this
          omega
        · intro ⟨h2, h3, h4⟩
          rcases List.mem_cons.1 (h1.2 ⟨h2, h3⟩) with h5 | h5
          · exact absurd h5 h4
          · exact h5
      obtain ⟨d, hde⟩ : ∃ d, deltaL l n i nB iB = d := ⟨_, rfl⟩
      have hd2 : (n - nB) * ((cnt (levT l n i) l.length : Int) + 1) + cnt (levT l n i) i - iB = d := hde
      have hdr : 0 ≤ d ∧ d ≤ 3000000000 := by omega
      have hdO : dOf (rd l i) nB (cnt (levT l n i) l.length) (cnt (levT l n i) i) iB = d := by
        rw [heq]
        unfold dOf
        rw [wrap64_id (n := n) (by omega) (by omega), wrap64_id (n := n - nB) (by omega) (by omega), wrap64_id (n := (n - nB) * ((cnt (levT l n i) l.length : Int) + 1)) (by omega) (by omega), wrap64_id (n := (n - nB) * ((cnt (levT l n i) l.length : Int) + 1) + cnt (levT l n i) i) (by omega) (by omega), wrap64_id (by omega) (by omega), hd2]
      have hnum := enc_num (q := n) (n := nB) (p := cnt (levT l n i) l.length) (h := cnt (levT l n i) i) (i := iB) (d := d) hd2.symm (by omega) (by omega) (by omega)
      have hok : okB (cnt (levT l n i) l.length) nB iB bias st = true := by
        unfold okB
        simp only [Bool.and_eq_true, decide_eq_true_eq]
        omega
      rw [hde]
      clear hde hd2 hm0 hm1 hd
      generalize cnt (levT l n i) l.length = p at *
      generalize cnt (levT l n i) i = h at *
      simp only [endonymref11_Encode.j5]
      rw [if_pos (by omega), if_pos (by omega), wrap64_id (n := rd l i) (by omega) (by omega), if_pos heq, List.map_cons]
      by_cases hover : d > 2147483647
      · rw [if_pos hover, encB_over hah hok hdO hover]
      · rw [if_neg hover]
        have hrn := rnumber_l0 bias hb0 hb1 18 d 1 ⟨#[]⟩ hdr.1 (by omega) (by omega) (by omega) (by omega) (by have : (⟨#[]⟩ : ByteArray).size = 0 := rfl; omega) 20 K (by omega) (by omega)
        have e2 : (⟨#[]⟩ : ByteArray) ++ strOfNums (numL 20 d bias 1) = strOfNums (numL 20 d bias 1) := by apply ByteArray.ext; simp [ByteArray.data_append]
        rw [e2] at hrn
        have hnl := numL_length 20 d bias 1
        have hwr := number_f b d bias hb0 hb1 hdr.1 (by omega) (by omega) 60 (by omega)
        have hadf := adapt_f d ((p : Int) + 1) (st == 0) (by omega) (by omega) 60 (by omega)
        have hadr : endonymref11_Adapt.f K d ((p : Int) + 1) (st == 0) = some (adaptI d ((p : Int) + 1) (st == 0)) := by rw [radapt_eq]; exact adapt_f d ((p : Int) + 1) (st == 0) (by omega) (by omega) K (by omega)
        have had := adaptI_bound d ((p : Int) + 1) (st == 0)
        generalize numL 20 d bias 1 = L at hrn hnl hwr
        generalize adaptI d ((p : Int) + 1) (st == 0) = ad at hadf hadr had
        have est : ((st + 1 : Int) == 0) = false := by rw [beq_eq_false_iff_ne]; omega
        have hLev : Lev l R' n (i + 1) (b ++ L) c1 n ((h : Int) + 1) ad (st + 1) :=
          { fen := hF1, mem := hiR', sorted := hsort.2, nB0 := by omega, nB1 := Int.le_refl _, nB2 := hn1, iB0 := by omega, iB1 := by omega, b0 := had.1, b1 := had.2, s0 := by omega, s1 := by omega, bl := by rw [List.length_append]; omega, RN := by omega,
            dpos := by rw [show n - n = 0 by omega, Int.zero_mul, hcTi]; omega }
        have hih := ih (i + 1) (by omega) R' (b ++ L) c1 n ((h : Int) + 1) ad (st + 1) hLev (by omega) (.inl (by omega)) K (by omega)
        have hd0 : deltaL l n (i + 1) n ((h : Int) + 1) = 0 := by
          unfold deltaL
          rw [show n - n = 0 by omega, Int.zero_mul, hcTi]; omega
        rw [hd0, est, hcTN] at hih
        unfold endonymref11_number.f
        rw [hrn, Option.bind_some, strOfNums_size, strOfNums_size, if_pos (by omega), wrap64_id (n := (p : Int) + 1) (by omega) (by omega), hadr, Option.bind_some, ← strOfNums_append, e1, show (p : Int) + 1 = ((p + 1 : Nat) : Int) by omega, hih]
        refine (encB_some hah hok hdO hdr.1 (by omega) hwr hadf ht1 ⟨hc1, by rw [List.length_append]; omega⟩ ?_).symm
        rw [hnum.1, hnum.2, show (p : Int) + 1 = ((p + 1 : Nat) : Int) by omega]
    · -- it is passed over
      have hT := levT_skip heq
      have hex1 : R.length ≤ r ∨ ∃ j : Nat, i + 1 ≤ j ∧ j < l.length ∧ rd l j = n := by
        rcases hex with h | ⟨j, h1, h2, h3⟩
        · exact .inl h
        · refine .inr ⟨j, ?_, h2, h3⟩
          have : j ≠ i := fun e => heq (e ▸ h3)
          omega
      have hLev : ∀ x : Nat, cnt (levT l n (i + 1)) (i + 1) = cnt (levT l n i) i + x → Lev l R n (i + 1) b c nB iB bias st := fun x hx =>
        { fen := hT ▸ hL.fen, mem := fun a => by rw [hT]; exact hL.mem a, sorted := hL.sorted, nB0 := hL.nB0, nB1 := hL.nB1, nB2 := hL.nB2, iB0 := hL.iB0, iB1 := by rw [hT]; exact hL.iB1, b0 := hL.b0, b1 := hL.b1, s0 := hL.s0, s1 := hL.s1, bl := hL.bl, RN := hL.RN,
          dpos := by rw [hx, hT]; omega }
      by_cases hlt : rd l i < n
      · rw [if_pos hlt]
        have hTi : levT l n i i = true := by simp [levT, hil, hlt]
        rw [hTi] at hcs
        simp only [if_true] at hcs
        have hL1 := hLev 1 (by rw [hT]; exact hcs)
        simp only [endonymref11_Encode.j5]
        rw [if_pos (by omega), if_pos (by omega), wrap64_id (n := rd l i) (by omega) (by omega), if_neg heq, e1]
        have ed : wrap64 (deltaL l n i nB iB + 1) = deltaL l n (i + 1) nB iB := by
          unfold deltaL
          rw [hT, hcs, wrap64_id (by omega) (by omega)]
          omega
        have h9 := ih (i + 1) (by omega) R b c nB iB bias st hL1 hRr hex1 K (by omega)
        rw [hT] at h9
        rw [ed]
        exact h9
      · rw [if_neg hlt]
        have hTi : levT l n i i = false := by simp [levT, hlt, heq]
        rw [hTi] at hcs
        simp only [Bool.false_eq_true, if_false] at hcs
        have hL1 := hLev 0 (by rw [hT]; exact hcs)
        simp only [endonymref11_Encode.j5]
        rw [if_pos (by omega), if_pos (by omega), wrap64_id (n := rd l i) (by omega) (by omega), if_neg heq, e1]
        have ed : deltaL l n i nB iB = deltaL l n (i + 1) nB iB := by
          unfold deltaL
          rw [hT, hcs]
          omega
        have h9 := ih (i + 1) (by omega) R b c nB iB bias st hL1 hRr hex1 K (by omega)
        rw [hT] at h9
        rw [ed]
        exact h9

theorem ref_l1 (l : List Int) (hv : ∀ x ∈ l, validI x = true) (hN : l.length ≤ 2000) : ∀ r, RefL1 l r := by
  intro r
  induction r with
  | zero =>
    intro R n b c nB iB bias st hR hL hn K hK
    obtain ⟨K, rfl⟩ : ∃ q, K = q + 1 := ⟨K - 1, by omega⟩
    obtain rfl : R = [] := List.eq_nil_of_length_eq_zero (by omega)
    have hc : cnt (levT l n 0) l.length = l.length := cnt_all _ fun j hj => by
      cases h : levT l n 0 j with
      | true => rfl
      | false => exact absurd ((hL.mem j).2 ⟨hj, h⟩) (by simp)
    simp only [endonymref11_Encode.l1]
    rw [hc, if_neg (by omega)]
    simp [encB]
  | succ r ih =>
    intro R n b c nB iB bias st hR hL hn K hK
    by_cases hR0 : R.length ≤ r
    · refine ih R n b c nB iB bias st hR0 hL hn K ?_
      have := Nat.mul_le_mul_right (4 * l.length + 40) (show r ≤ r + 1 by omega)
      omega
    obtain ⟨a, ha⟩ : ∃ a, a ∈ R := by
      cases R with
      | nil => simp at hR0
      | cons a R => exact ⟨a, by simp⟩
    have hm := (hL.mem a).1 ha
    have hlt := cnt_lt hm.2 l.length hm.1
    have han : n ≤ rd l a := by
      have := hm.2
      simp only [levT, hm.1, decide_true, Bool.true_and, Bool.or_eq_false_iff, decide_eq_false_iff_not] at this
      omega
    have hva := validI_at hv hm.1
    rw [Nat.add_mul] at hK
    obtain ⟨K, rfl⟩ : ∃ q, K = (l.length + 1 + q) + 1 := ⟨K - l.length - 2, by omega⟩
    obtain ⟨m, h1, h2, h3, h4⟩ := least l hv hN (strOfNums b) (cnt (levT l n 0) l.length) n (deltaL l n 0 nB iB) bias (st == 0) l.length 0 1114112 (by omega)
    have hma := h2 a (by omega) hm.1 han
    obtain ⟨j, hj1, hj2, hj3, hj4⟩ : ∃ j : Nat, 0 ≤ j ∧ j < l.length ∧ rd l j = m ∧ n ≤ m := by
      rcases h3 with h3 | h3
      · omega
      · exact h3
    simp only [endonymref11_Encode.l1]
    have h5 := h4 K
    rw [show ((0 : Nat) : Int) = 0 from rfl] at h5
    rw [if_pos (by omega), h5]
    clear h5
    have hT : levT l m 0 = levT l n 0 := levT_up hj4 (fun j h5 h6 => h2 j (by omega) h5 h6)
    have hcl := cnt_le (levT l n 0) l.length
    have hnB := hL.nB1
    have hnB0 := hL.nB0
    have hi0 := hL.iB0
    have hi1 := hL.iB1
    have hd := hL.dpos
    have hmm0 : 0 ≤ (m - n) * ((cnt (levT l n 0) l.length : Int) + 1) := Int.mul_nonneg (by omega) (by omega)
    have hmm1 : (m - n) * ((cnt (levT l n 0) l.length : Int) + 1) ≤ 1114111 * 2001 := Int.mul_le_mul (by omega) (by omega) (by omega) (by omega)
    have hn0 : 0 ≤ (n - nB) * ((cnt (levT l n 0) l.length : Int) + 1) := Int.mul_nonneg (by omega) (by omega)
    have hn1 : (n - nB) * ((cnt (levT l n 0) l.length : Int) + 1) ≤ 1114112 * 2001 := Int.mul_le_mul (by omega) (by omega) (by omega) (by omega)
    have hsum : (m - nB) * ((cnt (levT l n 0) l.length : Int) + 1) = (n - nB) * ((cnt (levT l n 0) l.length : Int) + 1) + (m - n) * ((cnt (levT l n 0) l.length : Int) + 1) := by
      rw [← Int.add_mul, show n - nB + (m - n) = m - nB by omega]
    have ed : wrap64 (deltaL l n 0 nB iB + wrap64 (wrap64 (m - n) * wrap64 ((cnt (levT l n 0) l.length : Int) + 1))) = deltaL l m 0 nB iB := by
      rw [wrap64_id (n := m - n) (by omega) (by omega), wrap64_id (n := (cnt (levT l n 0) l.length : Int) + 1) (by omega) (by omega), wrap64_id (n := (m - n) * ((cnt (levT l n 0) l.length : Int) + 1)) (by omega) (by omega)]
      unfold deltaL
      rw [hT, hsum]
      simp only [cnt] at *
      rw [wrap64_id (by omega) (by omega)]
      omega
    have hL1 : Lev l R m 0 b c nB iB bias st :=
      { fen := hT ▸ hL.fen, mem := fun a => by rw [hT]; exact hL.mem a, sorted := hL.sorted, nB0 := hL.nB0, nB1 := by omega, nB2 := hL.nB2, iB0 := hL.iB0, iB1 := by rw [hT]; exact hL.iB1, b0 := hL.b0, b1 := hL.b1, s0 := hL.s0, s1 := hL.s1, bl := hL.bl, RN := hL.RN,
        dpos := by rw [hT, hsum]; omega }
    rw [ed]
    have h9 := ref_l3 l hv hN r ih m (by omega) l.length 0 (by omega) R b c nB iB bias st hL1 hR (.inr ⟨j, hj1, hj2, hj3⟩) K (by omega)
    rw [hT] at h9
    exact h9

/-- The document's first part: the points below 80. -/
theorem ref_l0 (l : List Int) (hv : ∀ x ∈ l, validI x = true) (hN : l.length ≤ 2000) (res : Option (ByteArray × Int)) (K0 : Nat) (hend : ∀ K, K0 ≤ K → endonymref11_Encode.l1 K l (strOfNums (headL (basics l))) ((basics l).length : Int) 128 0 72 true = res) :
    ∀ (m i : Nat), i + m = l.length → ∀ K, m + 2 + K0 ≤ K → endonymref11_Encode.l0 K l (strOfNums (sel l (basicT l l.length) i)) (cnt (basicT l l.length) i) i = res := by
  have hbl := basics_length l
  intro m
  induction m with
  | zero =>
    intro i hi K hK
    obtain ⟨K, rfl⟩ : ∃ q, K = q + 2 := ⟨K - 2, by omega⟩
    obtain rfl : i = l.length := by omega
    have hc : cnt (basicT l l.length) l.length = (basics l).length := (sel_length l _ _).symm
    simp only [endonymref11_Encode.l0]
    rw [if_neg (by omega), hc, show sel l (basicT l l.length) l.length = basics l from rfl]
    by_cases h0 : 0 < (basics l).length
    · rw [if_pos (by omega), strOfNums_size, if_pos (by omega)]
      simp only [endonymref11_Encode.j1]
      have e : strOfNums (basics l) ++ ⟨#[45]⟩ = strOfNums (headL (basics l)) := by
        unfold headL
        rw [if_pos h0, strOfNums_append]
        rfl
      rw [e]
      exact hend _ (by omega)
    · have hnil : basics l = [] := List.eq_nil_of_length_eq_zero (by omega)
      have hh : headL (basics l) = [] := by unfold headL; rw [if_neg h0]
      rw [if_neg (by omega)]
      simp only [endonymref11_Encode.j1]
      have := hend K (by omega)
      rw [hh] at this
      rw [hnil] at this ⊢
      exact this
  | succ m ih =>
    intro i hi K hK
    obtain ⟨K, rfl⟩ : ∃ q, K = q + 1 := ⟨K - 1, by omega⟩
    have hil : i < l.length := by omega
    have hva := validI_at hv hil
    have hci := cnt_le (basicT l l.length) i
    have hsl : (strOfNums (sel l (basicT l l.length) i)).size ≤ i := by rw [strOfNums_size, sel_length]; exact cnt_le _ _
    have e1 : wrap64 ((i : Int) + 1) = ((i + 1 : Nat) : Int) := by rw [wrap64_id (by omega) (by omega)]; omega
    have e2 : wrap64 ((cnt (basicT l l.length) i : Int) + 1) = ((cnt (basicT l l.length) i + 1 : Nat) : Int) := by rw [wrap64_id (by omega) (by omega)]; omega
    simp only [endonymref11_Encode.l0]
    rw [if_pos (by omega), if_pos (by omega), e1, e2]
    have hih := ih (i + 1) (by omega) K (by omega)
    by_cases hp : rd l i < 128
    · have hT : basicT l l.length i = true := by simp [basicT, hil, hp]
      simp only [sel, cnt, hT, if_true] at hih
      rw [if_pos hp]
      simp only [Option.bind_some]
      rw [Int.emod_eq_of_lt hva.1 (by omega), strOfNums_size [rd l i], if_pos (by simp; omega), ← strOfNums_append]
      exact hih
    · have hT : basicT l l.length i = false := by simp [basicT, hp]
      simp only [sel, cnt, hT, Bool.false_eq_true, if_false, List.append_nil, Nat.add_zero] at hih
      rw [if_neg hp]
      exact hih

/-- Encode in the other words. -/
theorem encFn_eq (l : List Int) (hv : ∀ x ∈ l, validI x = true) (hN : l.length ≤ 2000) : ∃ (R : List Nat) (c : List Int), Lev l R 128 0 (headL (basics l)) c 128 0 72 0 ∧
    encFn l = encB l (R.map (fun a : Nat => (a : Int))) (headL (basics l)) c (cnt (levT l 128 0) l.length) 128 0 72 0 ∧ cnt (levT l 128 0) l.length = (basics l).length := by
  have hs := sound_f l (by omega) (l.length + 5) (by omega)
  rw [decide_eq_true hv] at hs
  have hbl := basics_length l
  obtain ⟨c, hA, hF⟩ := encA_run l hv (by omega) l.length 0 (by omega) (List.replicate (l.length + 1) 0) (by
    have : basicT l 0 = fun _ => false := by funext j; simp [basicT]
    rw [this]
    exact Fen.start _ (by omega))
  have e0 : sel l (basicT l 0) l.length = [] := List.eq_nil_of_length_eq_zero (by
    rw [sel_length]
    have : basicT l 0 = fun _ => false := by funext j; simp [basicT]
    rw [this]
    have hc : ∀ b, cnt (fun _ => false) b = 0 := fun b => by induction b with | zero => rfl | succ b ih => simp [cnt, ih]
    exact hc _)
  rw [e0] at hA
  simp only [List.drop_zero, oth, List.map_nil] at hA
  obtain ⟨R, hR1, hR2, hR3⟩ := ord_places l (oth l l.length) (oth_nodup l l.length)
  have hmem : ∀ a, a ∈ R ↔ a < l.length ∧ ¬ rd l a < 128 := fun a => by rw [hR2.mem_iff, mem_oth]
  have hRl : R.length ≤ l.length := by
    have h2 : ∀ b, (oth l b).length ≤ b := fun b => by
      induction b with
      | zero => simp [oth]
      | succ b ih => simp only [oth, List.length_append]; split <;> simp <;> omega
    rw [hR2.length_eq]; exact h2 _
  have hbT : levT l 128 0 = basicT l l.length := by
    funext j
    simp [levT, basicT]
  have hbe : sel l (basicT l l.length) l.length = basics l := rfl
  rw [hbe] at hA
  have hcb : cnt (basicT l l.length) l.length = (basics l).length := (sel_length l _ _).symm
  have hhd : (if 0 < (basics l).length then basics l ++ [45] else basics l) = headL (basics l) := by
    unfold headL
    split
    · rfl
    · exact List.eq_nil_of_length_eq_zero (by omega)
  have hhl : (headL (basics l)).length ≤ l.length + 1 := by unfold headL; split <;> simp <;> omega
  refine ⟨R, c, { fen := hbT ▸ hF, mem := fun a => ?_, sorted := hR3, nB0 := by omega, nB1 := by omega, nB2 := by omega, iB0 := by omega, iB1 := by omega, b0 := by omega, b1 := by omega, s0 := by omega, s1 := by omega, bl := by omega, RN := hRl, dpos := by simp [cnt] }, ?_, by rw [hbT]; exact hcb⟩
  · rw [hmem, hbT]
    simp only [basicT]
    constructor
    · intro ⟨h1, h2⟩; exact ⟨h1, by simp [h2]⟩
    · intro ⟨h1, h2⟩; refine ⟨h1, fun h3 => ?_⟩; simp [h1, h3] at h2
  · unfold encFn
    rw [if_neg (by omega), hs, Option.bind_some, if_pos rfl, hA, Option.bind_some]
    simp only
    rw [if_pos ⟨hF.len, by omega⟩, hR1, hhd, hbT, hcb]

theorem ref_encode (l : List Int) (hN : l.length ≤ 2000) (K : Nat) (hK : 16200000 ≤ K) : endonymref11_Encode.f K l = encFn l := by
  unfold endonymref11_Encode.f
  rw [if_neg (by omega)]
  unfold endonymref3_Sound.f
  rw [show endonymref3_Sound.l0 K l 0 = _ from rsound_l0 l (by omega) l.length 0 (by omega) K (by omega), List.drop_zero, Option.bind_some]
  by_cases hv : ∀ x ∈ l, validI x = true
  · rw [decide_eq_true hv, if_pos rfl]
    obtain ⟨R, c, hL, hE, hc⟩ := encFn_eq l hv hN
    rw [hE]
    have hmul : 2000 * (4 * l.length + 40) ≤ 16080000 := by omega
    have hRN := hL.RN
    have hd0 : deltaL l 128 0 128 0 = 0 := by simp [deltaL, cnt]
    have hend : ∀ K, 16081000 ≤ K → endonymref11_Encode.l1 K l (strOfNums (headL (basics l))) ((basics l).length : Int) 128 0 72 true = encB l (R.map (fun a : Nat => (a : Int))) (headL (basics l)) c (cnt (levT l 128 0) l.length) 128 0 72 0 := fun K hK => by
      have := ref_l1 l hv hN 2000 R 128 (headL (basics l)) c 128 0 72 0 (by omega) hL (by omega) K (by omega)
      rw [hd0, hc] at this
      rw [hc]
      exact this
    have h8 := ref_l0 l hv hN _ 16081000 hend l.length 0 (by omega) K (by omega)
    exact h8
  · have e : encFn l = some (⟨#[]⟩, 31) := by
      unfold encFn
      rw [if_neg (by omega), sound_f l (by omega) _ (by omega), decide_eq_false hv]
      rfl
    rw [decide_eq_false hv, e]
    rfl

set_option maxHeartbeats 1000000 in
theorem encB_told (l : List Int) (hv : ∀ x ∈ l, validI x = true) (hN : l.length ≤ 2000) : ∀ (R : List Nat) (T : Nat → Bool) (b c : List Int) (n i bias st : Int),
    Fen c l.length T → (∀ a ∈ R, a < l.length ∧ T a = false) → R.Pairwise (ltP l) → (∀ a ∈ R, n < rd l a ∨ (n = rd l a ∧ i ≤ cnt T a)) →
    128 ≤ n → n ≤ 1114111 → 0 ≤ i → i ≤ cnt T l.length → 0 ≤ bias → bias ≤ 800 → 0 ≤ st → st ≤ cnt T l.length → b.length + 20 * R.length ≤ 1000000 →
    ∃ s e, encB l (R.map (fun a : Nat => (a : Int))) b c (cnt T l.length) n i bias st = some (s, e) := by
  intro R
  induction R with
  | nil =>
    intro T b c n i bias st hF hR hPw hI hn0 hn1 hi0 hi1 hb0 hb1 hs0 hs1 hbl
    exact ⟨_, _, by rw [List.map_nil, encB]⟩
  | cons a R ih =>
    intro T b c n i bias st hF hR hPw hI hn0 hn1 hi0 hi1 hb0 hb1 hs0 hs1 hbl
    have ha := hR a (by simp)
    have hq := validI_at hv ha.1
    have hIa := hI a (by simp)
    have hca : cnt T a ≤ cnt T l.length := cnt_mono (by omega)
    have hcl := cnt_le T l.length
    have hah := hF.ahead (a := a) (by omega) (c.length + 5) (by have := hF.len; omega)
    obtain ⟨c1, ht1, hF1⟩ := hF.take ha.1 ha.2 (c.length + 5) (by have := hF.len; omega)
    have hc1 : c1.length = c.length := by rw [hF1.len, hF.len]
    have hcT1 := cnt_add1 ha.2 l.length
    rw [if_pos ha.1] at hcT1
    have hI1 : ∀ a2 ∈ R, rd l a < rd l a2 ∨ (rd l a = rd l a2 ∧ (cnt T a : Int) + 1 ≤ cnt (add1 T a) a2) := fun a2 h2 => by
      rw [List.pairwise_cons] at hPw
      rcases hPw.1 a2 h2 with h3 | ⟨h3, h4⟩
      · exact .inl h3
      · refine .inr ⟨h3, ?_⟩
        have h5 := cnt_add1 ha.2 a2
        rw [if_pos h4] at h5
        have h6 := cnt_mono (T := T) (Nat.le_of_lt h4)
        omega
    have hR1 : ∀ a2 ∈ R, a2 < l.length ∧ add1 T a a2 = false := fun a2 h2 => by
      have h3 := hR a2 (by simp [h2])
      rw [List.pairwise_cons] at hPw
      have h4 := hPw.1 a2 h2
      refine ⟨h3.1, ?_⟩
      have : a2 ≠ a := fun e => by unfold ltP at h4; rw [e] at h4; omega
      simp [add1, h3.2, this]
    rw [List.pairwise_cons] at hPw
    obtain ⟨p, hp⟩ : ∃ p, cnt T l.length = p := ⟨_, rfl⟩
    obtain ⟨h, hh⟩ : ∃ h, cnt T a = h := ⟨_, rfl⟩
    obtain ⟨q, hqe⟩ : ∃ q, rd l a = q := ⟨_, rfl⟩
    rw [hp, hh] at hca
    rw [hp] at hcl hi1 hs1 hcT1 ⊢
    rw [hh] at hah hIa hI1
    rw [hqe] at hq hIa hI1
    obtain ⟨d, hd⟩ : ∃ d : Int, (q - n) * ((p : Int) + 1) + h - i = d := ⟨_, rfl⟩
    have hmul0 : 0 ≤ (q - n) * ((p : Int) + 1) := Int.mul_nonneg (by omega) (by omega)
    have hmul1 : (q - n) * ((p : Int) + 1) ≤ 1113983 * 2001 := Int.mul_le_mul (by omega) (by omega) (by omega) (by omega)
    have hmul2 : n < q → (p : Int) + 1 ≤ (q - n) * ((p : Int) + 1) := fun h => by
      have := Int.mul_le_mul_of_nonneg_right (show (1 : Int) ≤ q - n by omega) (show (0 : Int) ≤ (p : Int) + 1 by omega)
      omega
    have hd0 : 0 ≤ d := by
      rcases hIa with h3 | ⟨h3, h4⟩
      · have := hmul2 h3
        omega
      · omega
    have hd1 : d ≤ 3000000000 := by omega
    have hdO : dOf q n p h i = d := by
      unfold dOf
      rw [wrap64_id (n := q) (by omega) (by omega), wrap64_id (n := q - n) (by omega) (by omega), wrap64_id (n := (q - n) * ((p : Int) + 1)) (by omega) (by omega), wrap64_id (n := (q - n) * ((p : Int) + 1) + h) (by omega) (by omega), wrap64_id (by omega) (by omega), hd]
    have hnum := enc_num (q := q) (n := n) (p := p) (h := h) (i := i) (d := d) hd.symm (by omega) (by omega) (by omega)
    have had := adaptI_bound d ((p : Int) + 1) (st == 0)
    have hnl := numL_length 20 d bias 1
    have hwr := number_f b d bias hb0 hb1 hd0 (by omega) (by omega) 60 (by omega)
    have hadf := adapt_f d ((p : Int) + 1) (st == 0) (by omega) (by omega) 60 (by omega)
    obtain ⟨L, hL⟩ : ∃ L, numL 20 d bias 1 = L := ⟨_, rfl⟩
    rw [hL] at hnl hwr
    obtain ⟨ad, hadd⟩ : ∃ ad, adaptI d ((p : Int) + 1) (st == 0) = ad := ⟨_, rfl⟩
    rw [hadd] at had hadf
    clear hL hadd hmul0 hmul1 hmul2
    have hok : okB p n i bias st = true := by
      unfold okB
      simp only [Bool.and_eq_true, decide_eq_true_eq]
      omega
    rw [List.length_cons] at hbl
    rw [List.map_cons]
    by_cases hover : 2147483647 < d
    · exact ⟨_, _, encB_over hah hok (by rw [hqe]; exact hdO) hover⟩
    obtain ⟨s, e, h1⟩ := ih (add1 T a) (b ++ L) c1 q ((h : Int) + 1) ad (st + 1) hF1 hR1 hPw.2 hI1 (by rcases hIa with h | h <;> omega) hq.2.1 (by omega) (by omega) had.1 had.2 (by omega) (by omega) (by rw [List.length_append]; omega)
    rw [hcT1] at h1
    refine ⟨s, e, encB_some hah hok (by rw [hqe]; exact hdO) hd0 hover hwr hadf ht1 ⟨hc1, by rw [List.length_append]; omega⟩ ?_⟩
    rw [hnum.1, hnum.2, show (p : Int) + 1 = ((p + 1 : Nat) : Int) by omega, h1]

theorem PunyEncodes : endonymlaw11_PunyEncodes.Pure := by
  intro l hN
  have hr := ref_encode l hN 16200000 (Nat.le_refl _)
  by_cases hv : ∀ x ∈ l, validI x = true
  · obtain ⟨R, c, hL, hE, hc⟩ := encFn_eq l hv hN
    have hs : ∀ a ∈ R, a < l.length ∧ levT l 128 0 a = false := fun a ha => (hL.mem a).1 ha
    obtain ⟨s, e, h1⟩ := encB_told l hv hN R (levT l 128 0) (headL (basics l)) c 128 0 72 0 hL.fen hs hL.sorted (fun a ha => by
      have := (hs a ha).2
      simp only [levT, (hs a ha).1, decide_true, Bool.true_and, Bool.or_eq_false_iff, decide_eq_false_iff_not] at this
      omega) (by omega) (by omega) (by omega) (by omega) (by omega) (by omega) (by omega) (by omega) hL.bl
    rw [← hE] at h1
    exact ⟨16200000, s, e, by omega, h1, by rw [hr]; exact h1⟩
  · have e : encFn l = some (⟨#[]⟩, 31) := by
      unfold encFn
      rw [if_neg (by omega), sound_f l (by omega) _ (by omega), decide_eq_false hv]
      rfl
    exact ⟨16200000, _, _, by omega, e, by rw [hr]; exact e⟩
end Go.Proofs.Yticocjpfhllelaa.Pure
