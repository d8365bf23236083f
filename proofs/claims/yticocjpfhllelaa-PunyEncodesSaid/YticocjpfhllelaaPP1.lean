/- The printed functions of layer 11 in plain Lean: what is told, Decode, Same. -/
import Derived.Test.YticocjpfhllelaaXP5
namespace Go.Proofs.Yticocjpfhllelaa.Pure
open Go.RowKit Go.Proofs.Yticocjpfhllelaa.XP Go.Proofs.YticocjpfhllelaaW.PrintWords Go.Proofs.YticocjpfhllelaaW.PrintLast

theorem told_100 : endonymlaw11_told.f 100 = some true := by kernel_rfl
theorem told_f (K : Nat) (hK : 100 ≤ K) : endonymlaw11_told.f K = some true := at_rounds (g := endonymlaw11_told.f) endonymlaw11_told.mono hK told_100

/-! ### Same -/
theorem same_l0 (x : List Int) (hx : x.length ≤ 1000000000000) : ∀ (m i : Nat), i + m = x.length → ∀ K, m < K → endonymref3_Same.l0 K x x i = some true
  | 0, i, h, K, hK => by
    obtain ⟨K, rfl⟩ : ∃ q, K = q + 1 := ⟨K - 1, by omega⟩
    simp only [endonymref3_Same.l0]
    rw [if_neg (by omega)]
  | m + 1, i, h, K, hK => by
    obtain ⟨K, rfl⟩ : ∃ q, K = q + 1 := ⟨K - 1, by omega⟩
    simp only [endonymref3_Same.l0]
    rw [if_pos (by omega), if_pos (by omega), if_pos (by omega)]
    simp only [if_true]
    rw [wrap64_id (by omega) (by omega), show (i : Int) + 1 = ((i + 1 : Nat) : Int) by omega]
    exact same_l0 x hx m (i + 1) (by omega) K (by omega)
theorem same_f (x : List Int) (K : Nat) (hx : x.length ≤ 1000000000000) (hK : x.length < K) : endonymref3_Same.f K x x = some true := by
  unfold endonymref3_Same.f
  rw [if_pos rfl]
  exact same_l0 x hx x.length 0 (by omega) K hK

/-! ### Decode -/
/-- The last hyphen's place (0: none); none: a byte from 80 on. -/
def scanL : List Int → Int → Int → Option Int
  | [], _, l => some l
  | b :: t, i, l => if b ≥ 128 then none else if b = 45 then scanL t (i + 1) i else scanL t (i + 1) l
def decB (bs : List Int) : List Int × Int :=
  if 65536 < bs.length then ([], 2)
  else match scanL bs 0 0 with
    | none => ([], 111)
    | some l => runD (if 0 < l then bs.drop (l.toNat + 1) else bs) (bs.take l.toNat) 128 0 72 0 1 0 1 true

theorem bytesOf_extract (s : ByteArray) (a b : Nat) : bytesOf (s.extract a b) = ((bytesOf s).drop a).take (b - a) := by
  unfold bytesOf
  rw [ByteArray.data_extract, Array.toList_extract]
  simp [List.extract, List.map_take, List.map_drop]
theorem bytes_at (s : ByteArray) (i : Nat) (h : i < s.size) : (bytesOf s).drop i = bt s i :: (bytesOf s).drop (i + 1) := by
  have := bytes_drop s (i : Int) (by omega) (by omega)
  simpa using this
theorem bytes_range (s : ByteArray) : ∀ b ∈ bytesOf s, 0 ≤ b ∧ b < 256 := by
  intro b hb
  unfold bytesOf at hb
  obtain ⟨u, _, rfl⟩ := List.mem_map.1 hb
  have := u.toNat_lt
  omega

theorem scanL_bound : ∀ (bs : List Int) (i l r : Int), scanL bs i l = some r → r = l ∨ (i ≤ r ∧ r < i + bs.length)
  | [], i, l, r, h => by simp [scanL] at h; exact .inl h.symm
  | b :: t, i, l, r, h => by
    unfold scanL at h
    rw [List.length_cons]
    split at h
    · exact absurd h (by simp)
    · split at h
      · rcases scanL_bound t _ _ r h with h1 | h1
        · right; omega
        · right; omega
      · rcases scanL_bound t _ _ r h with h1 | h1
        · exact .inl h1
        · right; omega

/-- What Decode does behind its loops. -/
def decEnd (s : ByteArray) (l : Nat) (x : List Int) : Option (List Int × Int) :=
  some (runD (if 0 < l then (bytesOf s).drop (l + 1) else bytesOf s) x 128 0 72 0 1 0 1 true)
theorem steps_some {x : List Int} {s : ByteArray} (hx : x.length ≤ 65536) (hs : s.size ≤ 65536) : ((puny_steps.f x s).bind fun b => some (b.1, b.2)) = some (runD (bytesOf s) x 128 0 72 0 1 0 1 true) := by
  unfold puny_steps.f
  rw [if_pos ⟨hx, hs⟩]
  rfl
theorem dec_l1 (s : ByteArray) (hs : s.size ≤ 65536) (l : Nat) (hl : l = 0 ∨ l < s.size) : ∀ (m j : Nat) (acc : List Int), j + m = l → acc.length = j → ∀ K, m < K →
    puny_Decode.l1 K s l acc l j = decEnd s l (acc ++ ((bytesOf s).drop j).take m)
  | 0, j, acc, h, ha, K, hK => by
    obtain ⟨K, rfl⟩ : ∃ q, K = q + 1 := ⟨K - 1, by omega⟩
    simp only [puny_Decode.l1]
    rw [if_neg (by omega)]
    simp only [List.take_zero, List.append_nil]
    unfold decEnd
    by_cases h0 : 0 < l
    · have e1 : wrap64 ((l : Int) + 1) = ((l + 1 : Nat) : Int) := by rw [wrap64_id (by omega) (by omega)]; omega
      rw [if_pos (by omega), e1, if_pos (by omega), if_pos (by omega), if_pos h0, Int.toNat_natCast]
      have e2 : (s.extract (l + 1) s.size).size = s.size - (l + 1) := by simp [ByteArray.size_extract]
      rw [steps_some (by omega) (by omega), bytesOf_extract, List.take_of_length_le]
      rw [List.length_drop, bytesOf_length]
      omega
    · rw [if_neg (by omega), if_neg h0, steps_some (by omega) hs]
  | m + 1, j, acc, h, ha, K, hK => by
    obtain ⟨K, rfl⟩ : ∃ q, K = q + 1 := ⟨K - 1, by omega⟩
    simp only [puny_Decode.l1]
    have hr := XP.bt_range s j
    have e1 : wrap64 ((j : Int) + 1) = ((j + 1 : Nat) : Int) := by rw [wrap64_id (by omega) (by omega)]; omega
    rw [if_pos (by omega), if_pos (by omega), if_pos (by omega), if_pos (by omega), e1, wrap32_id (by omega) (by omega), dec_l1 s hs l hl m (j + 1) _ (by omega) (by simp [ha]) K (by omega)]
    congr 1
    rw [bytes_at s j (by omega), List.take_succ_cons]
    simp
theorem dec_l0 (s : ByteArray) (hs : s.size ≤ 65536) : ∀ (m i l : Nat), i + m = s.size → (l = 0 ∨ l < s.size) → ∀ K, s.size + m + 1 < K →
    puny_Decode.l0 K s l s.size i = match scanL ((bytesOf s).drop i) i l with
      | none => some ([], 111)
      | some l' => decEnd s l'.toNat ((bytesOf s).take l'.toNat)
  | 0, i, l, h, hl, K, hK => by
    obtain ⟨K, rfl⟩ : ∃ q, K = q + 1 := ⟨K - 1, by omega⟩
    simp only [puny_Decode.l0]
    rw [if_neg (by omega), List.drop_eq_nil_of_le (by rw [bytesOf_length]; omega)]
    simp only [scanL, Int.toNat_natCast]
    have := dec_l1 s hs l hl l 0 [] (by omega) rfl K (by omega)
    simpa using this
  | m + 1, i, l, h, hl, K, hK => by
    obtain ⟨K, rfl⟩ : ∃ q, K = q + 1 := ⟨K - 1, by omega⟩
    simp only [puny_Decode.l0]
    have e1 : wrap64 ((i : Int) + 1) = ((i + 1 : Nat) : Int) := by rw [wrap64_id (by omega) (by omega)]; omega
    rw [if_pos (by omega), if_pos (by omega), if_pos (by omega), bytes_at s i (by omega), e1]
    unfold scanL
    by_cases h1 : bt s i ≥ 128
    · rw [if_pos h1, if_pos h1]
    · rw [if_neg h1, if_neg h1]
      by_cases h2 : bt s i = 45
      · rw [if_pos h2, if_pos h2]
        exact dec_l0 s hs m (i + 1) i (by omega) (by omega) K (by omega)
      · rw [if_neg h2, if_neg h2]
        exact dec_l0 s hs m (i + 1) l (by omega) hl K (by omega)
theorem dec_f (s : ByteArray) (K : Nat) (hK : 2 * s.size + 2 < K) : puny_Decode.f K s = some (decB (bytesOf s)) := by
  unfold puny_Decode.f decB
  rw [bytesOf_length]
  by_cases h : 65536 < s.size
  · rw [if_pos (by omega), if_pos h]
  · rw [if_neg (by omega), if_neg h]
    have := dec_l0 s (by omega) s.size 0 0 (by omega) (.inl rfl) K (by omega)
    rw [List.drop_zero] at this
    refine this.trans ?_
    cases hsc : scanL (bytesOf s) (0 : Nat) (0 : Nat) with
    | none => rfl
    | some l =>
      have hb := scanL_bound _ _ _ _ hsc
      simp only [decEnd]
      by_cases h0 : 0 < l
      · rw [if_pos h0, if_pos (by omega)]
      · rw [if_neg h0, if_neg (by omega)]
end Go.Proofs.Yticocjpfhllelaa.Pure
