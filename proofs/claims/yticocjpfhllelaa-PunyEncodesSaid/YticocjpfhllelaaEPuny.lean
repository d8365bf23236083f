/- Punycode's arithmetic in plain Lean, and what the printed leaf functions come to. -/
import Derived.Test.YticocjpfhllelaaXP1
import Derived.Test.YticocjpfhllelaaXP4
namespace Go.Proofs.Yticocjpfhllelaa.XP
open Go.RowKit Go.Proofs.YticocjpfhllelaaW.PrintWords Go.Proofs.YticocjpfhllelaaW.PrintLast Go.Proofs.YticocjpfhllelaaW.PrintMore

def adLoop : Nat → Int → Int → Int
  | 0, _, k => k
  | f + 1, d, k => if d > 455 then adLoop f (d / 35) (k + 36) else k + 36 * d / (d + 38)
def adaptI (d p : Int) (first : Bool) : Int :=
  let d1 := if first then max d 0 / 700 else max d 0 / 2
  adLoop 20 (d1 + d1 / max p 1) 0
def thr (k bias : Int) : Int := min (max (36 * k - bias) 1) 26
def dval (b : Int) : Int :=
  if 97 ≤ b ∧ b ≤ 122 then b - 97 else if 65 ≤ b ∧ b ≤ 90 then b - 65 else if 48 ≤ b ∧ b ≤ 57 then b - 22 else -1
def validI (c : Int) : Bool := decide (0 ≤ c) && decide (c ≤ 1114111) && (decide (c < 55296) || decide (57343 < c))

theorem wrap64_id {n : Int} (h0 : -9223372036854775808 ≤ n) (h1 : n ≤ 9223372036854775807) : wrap64 n = n := by
  unfold wrap64; omega
theorem wrap32_id {n : Int} (h0 : -2147483648 ≤ n) (h1 : n ≤ 2147483647) : wrap32 n = n := by
  unfold wrap32; omega

theorem adLoop_bound : ∀ (f : Nat) (d k : Int), 0 ≤ d → 0 ≤ k → 0 ≤ adLoop f d k ∧ adLoop f d k ≤ k + 36 * f + 36
  | 0, d, k, _, hk => by simp [adLoop]; omega
  | f + 1, d, k, hd, hk => by
    unfold adLoop
    by_cases h : d > 455
    · rw [if_pos h]
      have := adLoop_bound f (d / 35) (k + 36) (by omega) (by omega)
      omega
    · rw [if_neg h]
      have h1 : 0 ≤ 36 * d / (d + 38) := Int.ediv_nonneg (by omega) (by omega)
      have h2 : 36 * d / (d + 38) ≤ 36 := by
        have h3 : 36 * d / (d + 38) < 37 := Int.ediv_lt_of_lt_mul (by omega) (by omega)
        omega
      omega
theorem adaptI_bound (d p : Int) (b : Bool) : 0 ≤ adaptI d p b ∧ adaptI d p b ≤ 800 := by
  unfold adaptI
  have h0 : 0 ≤ (if b = true then max d 0 / 700 else max d 0 / 2) := by split <;> omega
  have h1 : 0 ≤ (if b = true then max d 0 / 700 else max d 0 / 2) / max p 1 := Int.ediv_nonneg h0 (by omega)
  have := adLoop_bound 20 ((if b = true then max d 0 / 700 else max d 0 / 2) + (if b = true then max d 0 / 700 else max d 0 / 2) / max p 1) 0 (by omega) (by omega)
  simp only
  omega

theorem tdiv_pos {a b : Int} (h : 0 ≤ a) : Int.tdiv a b = a / b := Int.tdiv_eq_ediv_of_nonneg h

/-- The printed loop, with as many rounds as are wanted. -/
theorem adapt_l0 : ∀ (f : Nat) (d k : Int), 0 ≤ d → d ≤ 9223372036854775807 → 0 ≤ k → k + 36 * (f + 1) ≤ 100000 → d < 456 * 35 ^ f →
    ∀ K, f < K → puny_Adapt.l0 K d k = some (adLoop (f + 1) d k)
  | f, d, k, hd, hd1, hk, hk1, hf, K, hK => by
    obtain ⟨K, rfl⟩ : ∃ m, K = m + 1 := ⟨K - 1, by omega⟩
    simp only [puny_Adapt.l0]
    unfold adLoop
    by_cases h : d > 455
    · rw [if_pos h, if_pos h]
      cases f with
      | zero => omega
      | succ f =>
        rw [tdiv_pos hd, wrap64_id (by omega) (by omega), wrap64_id (by omega) (by omega)]
        refine adapt_l0 f (d / 35) (k + 36) (by omega) (by omega) (by omega) (by omega) ?_ K (by omega)
        rw [Int.pow_succ] at hf; omega
    · rw [if_neg h, if_neg h]
      have e1 : wrap64 (d + 38) = d + 38 := wrap64_id (by omega) (by omega)
      have e2 : wrap64 (36 * d) = 36 * d := wrap64_id (by omega) (by omega)
      rw [e1, if_neg (by omega), e2, tdiv_pos (by omega)]
      have h1 : 0 ≤ 36 * d / (d + 38) := Int.ediv_nonneg (by omega) (by omega)
      have h3 : 36 * d / (d + 38) < 37 := Int.ediv_lt_of_lt_mul (by omega) (by omega)
      rw [wrap64_id (n := 36 * d / (d + 38)) (by omega) (by omega), wrap64_id (by omega) (by omega)]

theorem mx_max (a b : Int) : mx a b = max a b := by unfold mx; omega
theorem mn_min (a b : Int) : mn a b = min a b := by unfold mn; omega

theorem adapt_j0 (d p : Int) (hd : 0 ≤ d) (hd1 : d ≤ 4611686018427387903) (hp : 1 ≤ p) (K : Nat) (hK : 21 < K) :
    puny_Adapt.j0 K d p = some (adLoop 20 (d + d / p) 0) := by
  obtain ⟨K, rfl⟩ : ∃ m, K = m + 1 := ⟨K - 1, by omega⟩
  have h1 : 0 ≤ d / p := Int.ediv_nonneg hd (by omega)
  have h2 : d / p ≤ d := Int.ediv_le_self _ hd
  simp only [puny_Adapt.j0]
  rw [if_neg (by omega), tdiv_pos hd, wrap64_id (n := d / p) (by omega) (by omega)]
  have h3 : d + d / p ≤ 9223372036854775807 := by omega
  rw [wrap64_id (by omega) h3]
  exact adapt_l0 19 (d + d / p) 0 (by omega) h3 (by omega) (by omega) (by omega) K (by omega)

/-- The printed Adapt, at any numbers of their kind. -/
theorem adapt_f (d p : Int) (first : Bool) (hd : -9223372036854775808 ≤ d) (hd1 : d ≤ 9223372036854775807) (K : Nat) (hK : 21 < K) :
    puny_Adapt.f K d p first = some (adaptI d p first) := by
  unfold puny_Adapt.f adaptI
  rw [mx_max, mx_max]
  cases first
  · rw [if_neg (by simp), tdiv_pos (by omega), wrap64_id (n := max d 0 / 2) (by omega) (by omega)]
    simpa using adapt_j0 (max d 0 / 2) (max p 1) (by omega) (by omega) (by omega) K hK
  · rw [if_pos rfl, tdiv_pos (by omega), wrap64_id (n := max d 0 / 700) (by omega) (by omega)]
    simpa using adapt_j0 (max d 0 / 700) (max p 1) (by omega) (by omega) (by omega) K hK

theorem thr_f (k b : Int) (hk0 : 0 ≤ k) (hk : k ≤ 1000000) (hb0 : -1000000 ≤ b) (hb : b ≤ 1000000) : puny_threshold.f k b = some (thr k b) := by
  unfold puny_threshold.f thr
  rw [mx_max, mn_min, wrap64_id (n := 36 * k) (by omega) (by omega), wrap64_id (by omega) (by omega)]
theorem thr_bound (k b : Int) : 1 ≤ thr k b ∧ thr k b ≤ 26 := by unfold thr; omega

theorem value_f (b : Int) (h0 : 0 ≤ b) (h1 : b < 256) (K : Nat) (hK : 2 ≤ K) : puny_value.f K b = some (dval b) := by
  obtain ⟨K, rfl⟩ : ∃ m, K = m + 1 + 1 := ⟨K - 2, by omega⟩
  unfold puny_value.f
  simp only [puny_value.j0, puny_value.j1]
  unfold dval
  by_cases a1 : b ≥ 97
  · rw [if_pos a1]
    by_cases a2 : b ≤ 122
    · rw [if_pos (decide_eq_true a2), if_pos ⟨a1, a2⟩, Int.emod_eq_of_lt (by omega) (by omega)]
    · rw [if_neg (by simpa using a2), if_pos (by omega), if_neg (by simp; omega), if_pos (by omega), if_neg (by omega), if_neg (by omega), if_neg (by omega), if_neg (by omega)]
  · rw [if_neg a1, if_neg (by simp)]
    rw [if_neg (show ¬ (97 ≤ b ∧ b ≤ 122) by omega)]
    by_cases a3 : b ≥ 65
    · rw [if_pos a3]
      by_cases a4 : b ≤ 90
      · rw [if_pos (decide_eq_true a4), if_pos ⟨a3, a4⟩, Int.emod_eq_of_lt (by omega) (by omega)]
      · rw [if_neg (by simpa using a4), if_pos (by omega), if_neg (by omega), if_neg (by omega), if_neg (by omega)]
    · rw [if_neg a3, if_neg (by simp), if_neg (show ¬ (65 ≤ b ∧ b ≤ 90) by omega)]
      by_cases a5 : b ≥ 48
      · rw [if_pos a5]
        by_cases a6 : b ≤ 57
        · rw [if_pos a6, if_pos ⟨a5, a6⟩, Int.emod_eq_of_lt (by omega) (by omega)]; congr 1; omega
        · rw [if_neg a6, if_neg (by omega)]
      · rw [if_neg a5, if_neg (by omega)]
theorem dval_bound (b : Int) : -1 ≤ dval b ∧ dval b ≤ 35 := by unfold dval; split <;> (try split) <;> (try split) <;> omega

theorem valid_f (c : Int) : scalar_Valid.f c = some (validI c) := by
  unfold scalar_Valid.f validI
  by_cases a1 : c ≥ 0 <;> by_cases a2 : c ≤ 1114111 <;> by_cases a3 : c < 55296 <;> simp [a1, a2, a3] <;> omega
end Go.Proofs.Yticocjpfhllelaa.XP
