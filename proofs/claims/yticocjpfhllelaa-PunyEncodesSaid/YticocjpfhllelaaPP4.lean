/- How many places ahead of one are taken: the program's tree of counts, in plain Lean. -/
import Derived.Test.YticocjpfhllelaaEEnc1
import Derived.Test.YticocjpfhllelaaEPuny
set_option linter.unusedVariables false
set_option linter.unusedSimpArgs false
namespace Go.Proofs.Yticocjpfhllelaa.Pure
open Go.RowKit Go.Proofs.Yticocjpfhllelaa.XP Go.Proofs.YticocjpfhllelaaW.PrintWords Go.Proofs.YticocjpfhllelaaW.PrintLast

/-! ### The lowest bit -/
def lsb (i : Nat) : Nat := if h : i = 0 then 0 else if i % 2 = 1 then 1 else 2 * lsb (i / 2)
termination_by i
decreasing_by omega
theorem lsb_odd {i : Nat} (h : i % 2 = 1) : lsb i = 1 := by rw [lsb, dif_neg (by omega), if_pos h]
theorem lsb_even {i : Nat} (h0 : 0 < i) : lsb (2 * i) = 2 * lsb i := by rw [lsb, dif_neg (by omega), if_neg (by omega), show 2 * i / 2 = i by omega]
theorem lsb_bound : ∀ (n i : Nat), i ≤ n → 0 < i → 0 < lsb i ∧ lsb i ≤ i
  | 0, i, h, h0 => by omega
  | n + 1, i, h, h0 => by
    by_cases hp : i % 2 = 1
    · rw [lsb_odd hp]; omega
    · obtain ⟨j, rfl⟩ : ∃ j, i = 2 * j := ⟨i / 2, by omega⟩
      have := lsb_bound n j (by omega) (by omega)
      rw [lsb_even (by omega)]; omega
theorem lsb_pos {i : Nat} (h : 0 < i) : 0 < lsb i := (lsb_bound i i (Nat.le_refl _) h).1
theorem lsb_le {i : Nat} (h : 0 < i) : lsb i ≤ i := (lsb_bound i i (Nat.le_refl _) h).2
theorem rest_even {i : Nat} (h : 0 < i) : (i - lsb i) % 2 = 0 := by
  by_cases hp : i % 2 = 1
  · rw [lsb_odd hp]; omega
  · obtain ⟨j, rfl⟩ : ∃ j, i = 2 * j := ⟨i / 2, by omega⟩
    rw [lsb_even (by omega)]; omega
theorem and_compl : ∀ (k q : Nat), q < 2 ^ k → q &&& (2 ^ k - 1 - q) = 0
  | 0, q, h => by
    have : q = 0 := by simpa using h
    subst this; rfl
  | k + 1, q, h => by
    rw [Nat.pow_succ] at h ⊢
    have h1 : (q &&& (2 ^ k * 2 - 1 - q)) / 2 = 0 := by
      rw [Nat.and_div_two, show (2 ^ k * 2 - 1 - q) / 2 = 2 ^ k - 1 - q / 2 by omega]
      exact and_compl k (q / 2) (by omega)
    have h2 : (q &&& (2 ^ k * 2 - 1 - q)) % 2 ≠ 1 := fun e => by
      have := Nat.and_mod_two_eq_one.1 e
      omega
    omega
theorem and_neg : ∀ (k i : Nat), 0 < i → i < 2 ^ k → i &&& (2 ^ k - i) = lsb i
  | 0, i, h0, h => by simp at h; omega
  | k + 1, i, h0, h => by
    rw [Nat.pow_succ] at h ⊢
    by_cases hp : i % 2 = 1
    · have h1 : (i &&& (2 ^ k * 2 - i)) / 2 = 0 := by
        rw [Nat.and_div_two, show (2 ^ k * 2 - i) / 2 = 2 ^ k - 1 - i / 2 by omega]
        exact and_compl k (i / 2) (by omega)
      have h2 : (i &&& (2 ^ k * 2 - i)) % 2 = 1 := Nat.and_mod_two_eq_one.2 ⟨hp, by omega⟩
      rw [lsb_odd hp]
      omega
    · obtain ⟨j, rfl⟩ : ∃ j, i = 2 * j := ⟨i / 2, by omega⟩
      have h1 : (2 * j &&& (2 ^ k * 2 - 2 * j)) / 2 = lsb j := by
        rw [Nat.and_div_two, show (2 ^ k * 2 - 2 * j) / 2 = 2 ^ k - j by omega, show 2 * j / 2 = j by omega]
        exact and_neg k j (by omega) (by omega)
      have h2 : (2 * j &&& (2 ^ k * 2 - 2 * j)) % 2 ≠ 1 := fun e => by
        have := Nat.and_mod_two_eq_one.1 e
        omega
      rw [lsb_even (by omega)]
      omega
theorem bits_lsb {i : Nat} (h0 : 0 < i) (h1 : i ≤ 1000000) : bits .and .i64 (i : Int) (wrap64 (-(i : Int))) = (lsb i : Int) := by
  rw [wrap64_id (by omega) (by omega)]
  have hl := lsb_le h0
  have e : ((BitVec.ofInt IntKind.i64.bits (i : Int)) &&& (BitVec.ofInt IntKind.i64.bits (-(i : Int)))).toNat = lsb i := by
    rw [BitVec.toNat_and, BitVec.toNat_ofInt, BitVec.toNat_ofInt, ← and_neg 64 i h0 (by omega)]
    have a1 : ((i : Int) % ((2 ^ IntKind.i64.bits : Nat) : Int)).toNat = i := by
      rw [show IntKind.i64.bits = 64 from rfl, Int.emod_eq_of_lt (by omega) (by omega)]; omega
    have a2 : ((-(i : Int)) % ((2 ^ IntKind.i64.bits : Nat) : Int)).toNat = 2 ^ 64 - i := by
      rw [show IntKind.i64.bits = 64 from rfl]
      omega
    rw [a1, a2]
  simp only [bits]
  rw [e, IntKind.wrap_i64]
  omega

/-! ### What is counted -/
def cnt (T : Nat → Bool) : Nat → Nat
  | 0 => 0
  | b + 1 => cnt T b + if T b = true then 1 else 0
def add1 (T : Nat → Bool) (a : Nat) : Nat → Bool := fun j => T j || decide (j = a)
theorem cnt_mono {T : Nat → Bool} : ∀ {a b : Nat}, a ≤ b → cnt T a ≤ cnt T b := by
  intro a b h
  induction b with
  | zero => have : a = 0 := by omega
            subst this; exact Nat.le_refl _
  | succ b ih =>
    by_cases hb : a = b + 1
    · subst hb; exact Nat.le_refl _
    · have := ih (by omega)
      simp only [cnt]; omega
theorem cnt_le (T : Nat → Bool) : ∀ b, cnt T b ≤ b
  | 0 => Nat.le_refl _
  | b + 1 => by have := cnt_le T b; simp only [cnt]; split <;> omega
theorem cnt_add1 {T : Nat → Bool} {a : Nat} (ha : T a = false) : ∀ b, cnt (add1 T a) b = cnt T b + if a < b then 1 else 0
  | 0 => by simp [cnt]
  | b + 1 => by
    simp only [cnt, cnt_add1 ha b, add1, Bool.or_eq_true, decide_eq_true_eq]
    by_cases hb : b = a
    · subst hb
      rw [ha]
      simp
    · have : (T b = true ∨ b = a) ↔ T b = true := by simp [hb]
      simp only [this]
      by_cases h1 : a < b
      · rw [if_pos h1, if_pos (show a < b + 1 by omega)]; omega
      · rw [if_neg h1, if_neg (show ¬ a < b + 1 by omega)]; omega
/-- c tells T's counts of so many places. -/
structure Fen (c : List Int) (N : Nat) (T : Nat → Bool) : Prop where
  len : c.length = N + 1
  at_ : ∀ i, 1 ≤ i → i ≤ N → rd c i = (cnt T i : Int) - (cnt T (i - lsb i) : Int)
  le : N ≤ 100000

theorem covers_step : ∀ (n y i : Nat), y ≤ n → 0 < y → 0 < i → ((i - lsb i < y ∧ y ≤ i) ↔ (i = y ∨ (i - lsb i < y + lsb y ∧ y + lsb y ≤ i)))
  | 0, y, i, h, h0, hi => by omega
  | n + 1, y, i, h, h0, hi => by
    have hb := lsb_bound i i (Nat.le_refl _) hi
    by_cases hy : y % 2 = 1
    · rw [lsb_odd hy]
      have := rest_even hi
      omega
    · obtain ⟨z, rfl⟩ : ∃ z, y = 2 * z := ⟨y / 2, by omega⟩
      rw [lsb_even (by omega)]
      by_cases hp : i % 2 = 1
      · rw [lsb_odd hp]; omega
      · obtain ⟨j, rfl⟩ : ∃ j, i = 2 * j := ⟨i / 2, by omega⟩
        have := covers_step n z j (by omega) (by omega) (by omega)
        rw [lsb_even (by omega)]
        omega

theorem rd_set (c : List Int) (y : Nat) (v : Int) (hy : y < c.length) (i : Nat) : rd (c.set y v) i = if i = y then v else rd c i := by
  unfold rd
  simp only [Int.toNat_natCast, List.getD_eq_getElem?_getD]
  by_cases h : i = y
  · subst h; rw [if_pos rfl]; simp [hy]
  · rw [if_neg h, List.getElem?_set_ne (by omega)]

theorem take_l0 : ∀ (m : Nat) (c : List Int) (y : Nat), c.length ≤ y + m → 0 < y → y ≤ 300000 → c.length ≤ 100001 → (∀ i, y ≤ i → i < c.length → 0 ≤ rd c i ∧ rd c i ≤ 1000000) → ∀ K, m < K →
    ∃ c', puny_counts_take.l0 K c y = some c' ∧ c'.length = c.length ∧ ∀ i, 1 ≤ i → i < c.length → rd c' i = rd c i + if i - lsb i < y ∧ y ≤ i then 1 else 0 := by
  intro m
  induction m with
  | zero =>
    intro c y hm hy _ _ _ K hK
    obtain ⟨K, rfl⟩ : ∃ q, K = q + 1 := ⟨K - 1, by omega⟩
    refine ⟨c, by simp only [puny_counts_take.l0]; rw [if_neg (by omega)], rfl, fun i h1 h2 => ?_⟩
    rw [if_neg (by omega)]; omega
  | succ m ih =>
    intro c y hm hy hy2 hc hb K hK
    obtain ⟨K, rfl⟩ : ∃ q, K = q + 1 := ⟨K - 1, by omega⟩
    by_cases hlt : y < c.length
    · have hl := lsb_bound y y (Nat.le_refl _) hy
      have hv := hb y (Nat.le_refl _) hlt
      simp only [puny_counts_take.l0]
      rw [if_pos (by omega), if_pos (by omega), bits_lsb hy (by omega), wrap64_id (n := rd c y + 1) (by omega) (by omega), wrap64_id (by omega) (by omega), Int.toNat_natCast, show (y : Int) + (lsb y : Int) = ((y + lsb y : Nat) : Int) by omega]
      have hL := Aside0.mk (fun i (h1 : 0 < i) => covers_step y y i (Nat.le_refl _) hy h1)
      obtain ⟨z, hz⟩ : ∃ z, lsb y = z := ⟨_, rfl⟩
      rw [hz] at hl hL ⊢
      clear hz
      have hset := fun i => rd_set c y (rd c y + 1) hlt i
      obtain ⟨c', h1, h2, h3⟩ := ih (c.set y (rd c y + 1)) (y + z) (by rw [List.length_set]; omega) (by omega) (by omega) (by rw [List.length_set]; exact hc) (fun i hyi hi => by
          rw [List.length_set] at hi
          rw [hset, if_neg (by omega)]
          exact hb i (by omega) hi) K (by omega)
      rw [List.length_set] at h2 h3
      refine ⟨c', h1, h2, fun i hi1 hi2 => ?_⟩
      rw [h3 i hi1 hi2, hset]
      have hcov := hL.out i (by omega)
      by_cases hiy : i = y
      · subst hiy
        have hr := lsb_bound i i (Nat.le_refl _) (by omega)
        rw [if_pos rfl, if_neg (by omega), if_pos (by omega)]
        omega
      · rw [if_neg hiy]
        congr 1
        by_cases hc2 : i - lsb i < y ∧ y ≤ i
        · rw [if_pos hc2, if_pos ((hcov.1 hc2).resolve_left hiy)]
        · rw [if_neg hc2, if_neg (fun e => hc2 (hcov.2 (.inr e)))]
    · refine ⟨c, by simp only [puny_counts_take.l0]; rw [if_neg (by omega)], rfl, fun i h1 h2 => ?_⟩
      rw [if_neg (by omega)]; omega

theorem Fen.take {c : List Int} {N a : Nat} {T : Nat → Bool} (h : Fen c N T) (ha : a < N) (hT : T a = false) (K : Nat) (hK : N + 1 < K) : ∃ c', puny_counts_take.f K c a = some c' ∧ Fen c' N (add1 T a) := by
  have hl := h.len
  have hN := h.le
  unfold puny_counts_take.f
  rw [wrap64_id (by omega) (by omega), show (a : Int) + 1 = ((a + 1 : Nat) : Int) by omega]
  obtain ⟨c', h1, h2, h3⟩ := take_l0 (N + 1) c (a + 1) (by omega) (by omega) (by omega) (by omega) (fun i h1 h2 => by
    rw [h.at_ i (by omega) (by omega)]
    have := cnt_le T i
    have := cnt_mono (T := T) (Nat.sub_le i (lsb i))
    omega) K (by omega)
  refine ⟨c', h1, ⟨by omega, fun i hi1 hi2 => ?_, hN⟩⟩
  rw [h3 i hi1 (by omega), h.at_ i hi1 hi2, cnt_add1 hT, cnt_add1 hT]
  have hb := lsb_bound i i (Nat.le_refl _) hi1
  generalize lsb i = z at hb ⊢
  by_cases h4 : a < i
  · by_cases h5 : a < i - z
    · rw [if_neg (by omega), if_pos h4, if_pos h5]; omega
    · rw [if_pos (by omega), if_pos h4, if_neg h5]; omega
  · rw [if_neg (by omega), if_neg h4, if_neg (by omega)]; omega
theorem ahead_l0 {c : List Int} {N : Nat} {T : Nat → Bool} (h : Fen c N T) : ∀ (m i : Nat) (acc : Int), i ≤ m → i ≤ N → 0 ≤ acc → acc + cnt T i ≤ 1000000 → ∀ K, m < K → puny_counts_ahead.l0 K c acc i = some (acc + cnt T i)
  | 0, i, acc, him, hi, ha0, ha1, K, hK => by
    obtain ⟨K, rfl⟩ : ∃ q, K = q + 1 := ⟨K - 1, by omega⟩
    have : i = 0 := by omega
    subst this
    simp only [puny_counts_ahead.l0]
    rw [if_neg (by omega)]
    simp [cnt]
  | m + 1, i, acc, him, hi, ha0, ha1, K, hK => by
    obtain ⟨K, rfl⟩ : ∃ q, K = q + 1 := ⟨K - 1, by omega⟩
    have hl := h.len
    have hN := h.le
    simp only [puny_counts_ahead.l0]
    by_cases h0 : 0 < i
    · have hb := lsb_bound i i (Nat.le_refl _) h0
      have hm := cnt_mono (T := T) (Nat.sub_le i (lsb i))
      rw [if_pos (by omega), if_pos (by omega), if_pos (by omega), bits_lsb h0 (by omega), h.at_ i h0 hi]
      have e1 : wrap64 ((i : Int) - (lsb i : Int)) = ((i - lsb i : Nat) : Int) := by rw [wrap64_id (by omega) (by omega)]; omega
      have e2 : wrap64 (acc + ((cnt T i : Int) - (cnt T (i - lsb i) : Int))) = acc + ((cnt T i : Int) - (cnt T (i - lsb i) : Int)) := wrap64_id (by omega) (by omega)
      rw [e1, e2]
      clear e1 e2
      rw [ahead_l0 h m (i - lsb i) _ (by omega) (by omega) (by omega) (by omega) K (by omega)]
      congr 1
      omega
    · have : i = 0 := by omega
      subst this
      rw [if_neg (by omega)]
      simp [cnt]
theorem Fen.ahead {c : List Int} {N a : Nat} {T : Nat → Bool} (h : Fen c N T) (ha : a ≤ N) (K : Nat) (hK : N < K) : puny_counts_ahead.f K c a = some (cnt T a : Int) := by
  have hN := h.le
  have := cnt_le T a
  unfold puny_counts_ahead.f
  rw [ahead_l0 h N a 0 ha ha (by omega) (by omega) K hK, Int.zero_add]
theorem Fen.start (N : Nat) (hN : N ≤ 100000) : Fen (List.replicate (N + 1) 0) N (fun _ => false) := by
  have hc : ∀ b, cnt (fun _ => false) b = 0 := fun b => by induction b with | zero => rfl | succ b ih => simp [cnt, ih]
  refine ⟨by simp, fun i h1 h2 => ?_, hN⟩
  rw [hc, hc]
  simp only [rd, Int.toNat_natCast, List.getD_eq_getElem?_getD, List.getElem?_replicate]
  split <;> rfl

/-! ### What stands at the places that are taken -/
def sel (l : List Int) (T : Nat → Bool) : Nat → List Int
  | 0 => []
  | b + 1 => sel l T b ++ if T b = true then [rd l b] else []
theorem sel_length (l : List Int) (T : Nat → Bool) : ∀ b, (sel l T b).length = cnt T b
  | 0 => rfl
  | b + 1 => by simp only [sel, cnt, List.length_append, sel_length l T b]; split <;> rfl
theorem sel_below {l : List Int} {T T' : Nat → Bool} : ∀ b, (∀ j, j < b → T j = T' j) → sel l T b = sel l T' b
  | 0, _ => rfl
  | b + 1, h => by simp only [sel, sel_below b (fun j hj => h j (by omega)), h b (by omega)]
theorem sel_add1 {l : List Int} {T : Nat → Bool} {a : Nat} (ha : T a = false) : ∀ b, a < b → sel l (add1 T a) b = (sel l T b).take (cnt T a) ++ rd l a :: (sel l T b).drop (cnt T a)
  | 0, h => by omega
  | b + 1, h => by
    by_cases hab : a = b
    · subst hab
      have e : sel l (add1 T a) a = sel l T a := sel_below a (fun j hj => by simp [add1]; omega)
      have hl := sel_length l T a
      simp only [sel, e, add1, decide_true, Bool.or_true, if_true, ha, Bool.false_eq_true, if_false, List.append_nil]
      rw [List.take_of_length_le (by omega), List.drop_eq_nil_of_le (by omega)]
    · have ih := sel_add1 (l := l) ha b (by omega)
      have hne : (add1 T a) b = T b := by simp [add1]; intro; omega
      have hl := sel_length l T b
      have hc : cnt T a ≤ cnt T b := cnt_mono (by omega)
      simp only [sel, ih, hne]
      rw [List.take_append_of_le_length (by omega), List.drop_append_of_le_length (by omega)]
      simp
theorem sel_all {l : List Int} {T : Nat → Bool} (h : ∀ j, j < l.length → T j = true) : sel l T l.length = l := by
  have : ∀ b, b ≤ l.length → sel l T b = l.take b := by
    intro b
    induction b with
    | zero => intro _; rfl
    | succ b ih =>
      intro hb
      simp only [sel, ih (by omega), h b (by omega), if_true]
      have hi : b < l.length := by omega
      rw [List.take_succ_eq_append_getElem hi]
      congr 2
      simp [rd, hi]
  rw [this _ (Nat.le_refl _), List.take_length]
end Go.Proofs.Yticocjpfhllelaa.Pure
