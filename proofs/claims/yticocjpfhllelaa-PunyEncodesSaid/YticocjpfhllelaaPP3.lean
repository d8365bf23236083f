/- Numbers in Punycode in plain Lean: what is written is read. -/
import Derived.Test.YticocjpfhllelaaPP1
set_option linter.unusedVariables false
set_option linter.unusedSimpArgs false
namespace Go.Proofs.Yticocjpfhllelaa.Pure
open Go.RowKit Go.Proofs.Yticocjpfhllelaa.XP Go.Proofs.YticocjpfhllelaaW.PrintWords Go.Proofs.YticocjpfhllelaaW.PrintLast

def dig (d : Int) : Int := if d < 26 then 97 + d else 22 + d
theorem dval_dig {d : Int} (h0 : 0 ≤ d) (h1 : d < 36) : dval (dig d) = d := by
  unfold dig dval
  (repeat' split) <;> omega
theorem dig_range {d : Int} (h0 : 0 ≤ d) (h1 : d < 36) : (97 ≤ dig d ∧ dig d ≤ 122) ∨ (48 ≤ dig d ∧ dig d ≤ 57) := by
  unfold dig
  split <;> omega
/-- A number's digits, from the k-th on. -/
def numL : Nat → Int → Int → Int → List Int
  | 0, _, _, _ => []
  | f + 1, n, bias, k => if n < thr k bias then [dig n] else dig (thr k bias + (n - thr k bias) % (36 - thr k bias)) :: numL f ((n - thr k bias) / (36 - thr k bias)) bias (k + 1)

/-- What is left behind a digit. -/
theorem num_next {n t : Int} (ht0 : 1 ≤ t) (ht1 : t ≤ 26) (hn : ¬ n < t) (P : Int) (hP : n < P * 10) (hP0 : 0 ≤ P) :
    0 ≤ (n - t) / (36 - t) ∧ (n - t) / (36 - t) < P ∧ 0 ≤ (n - t) % (36 - t) ∧ (n - t) % (36 - t) < 36 - t ∧ (36 - t) * ((n - t) / (36 - t)) + (n - t) % (36 - t) = n - t ∧ (n - t) / (36 - t) ≤ n - t := by
  refine ⟨Int.ediv_nonneg (by omega) (by omega), Int.ediv_lt_of_lt_mul (by omega) ?_, Int.emod_nonneg _ (by omega), Int.emod_lt_of_pos _ (by omega), Int.mul_ediv_add_emod _ _, Int.ediv_le_self _ (by omega)⟩
  have := Int.mul_le_mul_of_nonneg_left (show (10 : Int) ≤ 36 - t by omega) hP0
  omega

theorem numL_range : ∀ (f F : Nat) (n bias k : Int), 0 ≤ n → n < 10 ^ f → ∀ b ∈ numL F n bias k, (97 ≤ b ∧ b ≤ 122) ∨ (48 ≤ b ∧ b ≤ 57)
  | _, 0, _, _, _, _, _, b, hb => by simp [numL] at hb
  | f, F + 1, n, bias, k, h0, h1, b, hb => by
    unfold numL at hb
    have ht := thr_bound k bias
    generalize thr k bias = t at ht hb
    split at hb
    · simp only [List.mem_singleton] at hb
      rw [hb]
      exact dig_range h0 (by omega)
    · rename_i hn
      cases f with
      | zero => simp at h1; omega
      | succ f =>
        rw [Int.pow_succ] at h1
        have hx := num_next ht.1 ht.2 hn _ h1 (Int.pow_nonneg (by omega))
        rcases List.mem_cons.1 hb with hb | hb
        · rw [hb]
          exact dig_range (by omega) (by omega)
        · exact numL_range f F _ bias (k + 1) hx.1 hx.2.1 b hb
theorem numL_length : ∀ (F : Nat) (n bias k : Int), (numL F n bias k).length ≤ F
  | 0, _, _, _ => by simp [numL]
  | F + 1, n, bias, k => by
    unfold numL
    split
    · simp
    · rw [List.length_cons]
      have := numL_length F ((n - thr k bias) / (36 - thr k bias)) bias (k + 1)
      omega

theorem digit_f {d : Int} (h0 : 0 ≤ d) (h1 : d < 36) : puny_digit.f d = some (dig d) := by
  unfold puny_digit.f dig
  split
  · rw [wrap64_id (by omega) (by omega), Int.emod_eq_of_lt (by omega) (by omega)]
  · rw [wrap64_id (n := 48 + d) (by omega) (by omega), wrap64_id (by omega) (by omega), Int.emod_eq_of_lt (by omega) (by omega)]
    congr 1; omega
theorem number_l0 (bias : Int) (hb0 : 0 ≤ bias) (hb1 : bias ≤ 800) : ∀ (f : Nat) (n k : Int) (acc : List Int), 0 ≤ n → n < 10 ^ f → n ≤ 9000000000000000000 → 1 ≤ k → k + f ≤ 10000 → acc.length + f ≤ 10000000000000 → ∀ F K, f < F → f < K →
    puny_number.l0 K acc n bias k = some (acc ++ numL F n bias k)
  | f, n, k, acc, h0, h1, hbig, hk0, hk1, hl, F, K, hF, hK => by
    obtain ⟨K, rfl⟩ : ∃ q, K = q + 1 := ⟨K - 1, by omega⟩
    obtain ⟨F, rfl⟩ : ∃ q, F = q + 1 := ⟨F - 1, by omega⟩
    simp only [puny_number.l0]
    rw [thr_f k bias (by omega) (by omega) (by omega) (by omega)]
    unfold numL
    have ht := thr_bound k bias
    generalize thr k bias = t at ht
    simp only [Option.bind_some]
    by_cases hn : n < t
    · rw [if_pos hn, if_pos hn, digit_f h0 (by omega)]
      simp only [Option.bind_some]
      rw [if_pos (by omega)]
    · rw [if_neg hn, if_neg hn]
      cases f with
      | zero => simp at h1; omega
      | succ f =>
        rw [Int.pow_succ] at h1
        have hx := num_next ht.1 ht.2 hn _ h1 (Int.pow_nonneg (by omega))
        rw [wrap64_id (n := 36 - t) (by omega) (by omega), if_neg (by omega), wrap64_id (n := n - t) (by omega) (by omega), tdiv_pos (show 0 ≤ n - t by omega), Int.tmod_eq_emod_of_nonneg (show 0 ≤ n - t by omega)]
        generalize (n - t) / (36 - t) = q at hx ⊢
        generalize (n - t) % (36 - t) = m at hx ⊢
        rw [wrap64_id (n := t + m) (by omega) (by omega), digit_f (by omega) (by omega), wrap64_id (n := q) (by omega) (by omega), wrap64_id (n := k + 1) (by omega) (by omega)]
        simp only [Option.bind_some]
        rw [if_pos (by omega), number_l0 bias hb0 hb1 f q (k + 1) _ hx.1 hx.2.1 (by omega) (by omega) (by omega) (by simp; omega) F K (by omega) (by omega)]
        simp
theorem number_f (b : List Int) (n bias : Int) (hb0 : 0 ≤ bias) (hb1 : bias ≤ 800) (h0 : 0 ≤ n) (h1 : n < 10 ^ 18) (hl : b.length ≤ 1000000000000) (K : Nat) (hK : 18 < K) : puny_number.f K b n bias = some (b ++ numL 20 n bias 1) := by
  unfold puny_number.f
  exact number_l0 bias hb0 hb1 18 n 1 b h0 h1 (by simp at h1; omega) (by omega) (by omega) (by omega) 20 K (by omega) hK

/-! ### Reading -/
/-- What is done behind a number. -/
def finD (rest x : List Int) (n i bias st num : Int) : List Int × Int :=
  if 2147483647 < num then ([], 113)
  else if n + (i + num) / (x.length + 1) ≤ 1114111 ∧ validI (n + (i + num) / (x.length + 1)) = true then
    runD rest (x.take ((i + num) % (x.length + 1)).toNat ++ (n + (i + num) / (x.length + 1)) :: x.drop ((i + num) % (x.length + 1)).toNat) (n + (i + num) / (x.length + 1)) ((i + num) % (x.length + 1) + 1) (adaptI num (x.length + 1) (st == 0)) (st + 1) 1 0 1 true
  else ([], 31)
theorem runD_cons (b : Int) (bs x : List Int) (n i bias st k num wt : Int) (fresh : Bool) (hd : 0 ≤ dval b) : runD (b :: bs) x n i bias st k num wt fresh =
    (if thr k bias ≤ dval b then runD bs x n i bias st (k + 1) (if 0 < dval b then min (num + dval b * wt) 2147483648 else num) (min (wt * (36 - thr k bias)) 2147483648) false
     else finD bs x n i bias st (if 0 < dval b then min (num + dval b * wt) 2147483648 else num)) := by
  rw [runD.eq_def]
  simp only
  rw [if_neg (by omega)]
  rfl
theorem sat_add {d v w : Int} (hd : 0 ≤ d) (hv : 0 ≤ v) (hw : 1 ≤ w) : (if 0 < d then min (min v 2147483648 + d * min w 2147483648) 2147483648 else min v 2147483648) = min (v + d * w) 2147483648 := by
  by_cases h : 0 < d
  · rw [if_pos h]
    have h1 : 0 ≤ d * w := Int.mul_nonneg (by omega) (by omega)
    by_cases hw1 : w ≤ 2147483648
    · rw [Int.min_eq_left hw1]
      by_cases hv1 : v ≤ 2147483648
      · rw [Int.min_eq_left hv1]
      · omega
    · rw [Int.min_eq_right (a := w) (by omega)]
      have h2 : 1 * 2147483648 ≤ d * 2147483648 := Int.mul_le_mul_of_nonneg_right (by omega) (by omega)
      have h3 : d * 2147483648 ≤ d * w := Int.mul_le_mul_of_nonneg_left (by omega) (by omega)
      omega
  · have : d = 0 := by omega
    subst this
    simp
theorem sat_mul {w m : Int} (hw : 1 ≤ w) (hm : 1 ≤ m) : min (min w 2147483648 * m) 2147483648 = min (w * m) 2147483648 := by
  by_cases hw1 : w ≤ 2147483648
  · rw [Int.min_eq_left hw1]
  · rw [Int.min_eq_right (a := w) (by omega)]
    have h2 : 2147483648 * 1 ≤ 2147483648 * m := Int.mul_le_mul_of_nonneg_left hm (by omega)
    have h3 : 2147483648 * m ≤ w * m := Int.mul_le_mul_of_nonneg_right (by omega) (by omega)
    omega
theorem read_num (bias : Int) : ∀ (f : Nat) (n : Int), 0 ≤ n → n < 10 ^ f → ∀ (F : Nat), f < F → ∀ (v w k : Int) (rest x : List Int) (N i st : Int) (fresh : Bool), 0 ≤ v → 1 ≤ w →
    runD (numL F n bias k ++ rest) x N i bias st k (min v 2147483648) (min w 2147483648) fresh = finD rest x N i bias st (min (v + n * w) 2147483648)
  | f, n, h0, h1, F, hF, v, w, k, rest, x, N, i, st, fresh, hv, hw => by
    obtain ⟨F, rfl⟩ : ∃ q, F = q + 1 := ⟨F - 1, by omega⟩
    unfold numL
    have ht := thr_bound k bias
    by_cases hn : n < thr k bias
    · rw [if_pos hn, List.singleton_append, runD_cons _ _ _ _ _ _ _ _ _ _ _ (by rw [dval_dig h0 (by omega)]; exact h0), dval_dig h0 (by omega), if_neg (by omega), sat_add h0 hv hw]
    · rw [if_neg hn, List.cons_append]
      cases f with
      | zero => simp at h1; omega
      | succ f =>
        rw [Int.pow_succ] at h1
        have hx := num_next ht.1 ht.2 hn _ h1 (Int.pow_nonneg (by omega))
        have hd0 : 0 ≤ thr k bias + (n - thr k bias) % (36 - thr k bias) := by omega
        have hd1 : thr k bias + (n - thr k bias) % (36 - thr k bias) < 36 := by omega
        rw [runD_cons _ _ _ _ _ _ _ _ _ _ _ (by rw [dval_dig hd0 hd1]; exact hd0), dval_dig hd0 hd1, if_pos (by omega), sat_add hd0 hv hw, sat_mul hw (by omega)]
        have hw2 : 1 ≤ w * (36 - thr k bias) := by
          have := Int.mul_le_mul (show (1 : Int) ≤ w from hw) (show (1 : Int) ≤ 36 - thr k bias by omega) (by omega) (by omega)
          omega
        have hv2 : 0 ≤ v + (thr k bias + (n - thr k bias) % (36 - thr k bias)) * w := by
          have := Int.mul_nonneg hd0 (show 0 ≤ w by omega)
          omega
        rw [read_num bias f _ hx.1 hx.2.1 F (by omega) _ _ (k + 1) rest x N i st false hv2 hw2]
        congr 2
        generalize (n - thr k bias) / (36 - thr k bias) = q at hx ⊢
        generalize (n - thr k bias) % (36 - thr k bias) = m at hx ⊢
        generalize thr k bias = t at hx ⊢
        have e : n = t + m + (36 - t) * q := by omega
        have e2 : n * w = (t + m) * w + (36 - t) * q * w := by rw [e, Int.add_mul]
        have e3 : q * (w * (36 - t)) = (36 - t) * q * w := by rw [Int.mul_comm w, ← Int.mul_assoc, Int.mul_comm q]
        rw [e2, e3]
        omega
theorem read_one (n bias : Int) (h0 : 0 ≤ n) (h1 : n < 10 ^ 18) (rest x : List Int) (N i st : Int) (fresh : Bool) : runD (numL 20 n bias 1 ++ rest) x N i bias st 1 0 1 fresh = finD rest x N i bias st (min n 2147483648) := by
  have := read_num bias 18 n h0 h1 20 (by omega) 0 1 1 rest x N i st fresh (by omega) (by omega)
  rw [show min (0 : Int) 2147483648 = 0 by decide, show min (1 : Int) 2147483648 = 1 by decide, Int.zero_add, Int.mul_one] at this
  exact this

/-! ### Bytes -/
theorem bytesOf_append (a b : ByteArray) : bytesOf (a ++ b) = bytesOf a ++ bytesOf b := by
  unfold bytesOf
  rw [ByteArray.data_append, Array.toList_append, List.map_append]
theorem bytesOf_strOfNums (xs : List Int) (h : ∀ b ∈ xs, 0 ≤ b ∧ b < 256) : bytesOf (strOfNums xs) = xs := by
  unfold bytesOf strOfNums
  simp only [List.map_map]
  conv => rhs; rw [← List.map_id xs]
  refine List.map_congr_left fun b hb => ?_
  have := h b hb
  simp
  omega
theorem bytesOf_hyphen : bytesOf ⟨#[45]⟩ = [45] := rfl
theorem strOfNums_append (a b : List Int) : strOfNums (a ++ b) = strOfNums a ++ strOfNums b := by
  apply ByteArray.ext
  simp [strOfNums, ByteArray.data_append]

/-! ### What is cut off behind the last hyphen -/
theorem scanL_cons (b : Int) (t : List Int) (i l : Int) : scanL (b :: t) i l = if b ≥ 128 then none else if b = 45 then scanL t (i + 1) i else scanL t (i + 1) l := rfl
theorem scanL_points (t : List Int) : ∀ (w : List Int) (i l : Int), (∀ b ∈ w, b < 128) → ∃ l', scanL (w ++ t) i l = scanL t (i + w.length) l'
  | [], i, l, _ => ⟨l, by simp⟩
  | b :: w, i, l, h => by
    have hb := h b (by simp)
    rw [List.cons_append, scanL_cons, if_neg (by omega)]
    have hl : (i + 1 + (w.length : Int)) = i + ((b :: w).length : Int) := by simp; omega
    split
    · obtain ⟨l', h'⟩ := scanL_points t w (i + 1) i (fun x hx => h x (by simp [hx]))
      exact ⟨l', by rw [h', hl]⟩
    · obtain ⟨l', h'⟩ := scanL_points t w (i + 1) l (fun x hx => h x (by simp [hx]))
      exact ⟨l', by rw [h', hl]⟩
theorem scanL_digits : ∀ (d : List Int) (i l : Int), (∀ b ∈ d, (97 ≤ b ∧ b ≤ 122) ∨ (48 ≤ b ∧ b ≤ 57)) → scanL d i l = some l
  | [], _, _, _ => rfl
  | b :: d, i, l, h => by
    have hb := h b (by simp)
    rw [scanL_cons, if_neg (by omega), if_neg (by omega)]
    exact scanL_digits d (i + 1) l (fun x hx => h x (by simp [hx]))
def headL (w : List Int) : List Int := if 0 < w.length then w ++ [45] else []
theorem decB_head (w d : List Int) (hw : ∀ b ∈ w, b < 128) (hd : ∀ b ∈ d, (97 ≤ b ∧ b ≤ 122) ∨ (48 ≤ b ∧ b ≤ 57)) (hl : w.length + 1 + d.length ≤ 65536) :
    decB (headL w ++ d) = runD d w 128 0 72 0 1 0 1 true := by
  unfold decB headL
  by_cases h : 0 < w.length
  · rw [if_pos h, if_neg (by simp; omega)]
    obtain ⟨l', h'⟩ := scanL_points ([45] ++ d) w 0 0 hw
    rw [List.append_assoc, h', List.singleton_append]
    rw [scanL_cons, if_neg (by omega), if_pos rfl, scanL_digits d _ _ hd]
    simp only [Int.zero_add, Int.toNat_natCast]
    rw [if_pos (by omega)]
    congr 1
    · rw [← List.singleton_append, ← List.append_assoc, List.drop_left' (by simp)]
    · rw [List.take_left' rfl]
  · have : w = [] := List.eq_nil_of_length_eq_zero (by omega)
    subst this
    rw [if_neg h, List.nil_append, if_neg (by omega), scanL_digits d _ _ hd]
    simp

end Go.Proofs.Yticocjpfhllelaa.Pure
