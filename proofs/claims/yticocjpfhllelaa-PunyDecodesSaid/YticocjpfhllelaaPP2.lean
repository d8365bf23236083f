/- The document's Decode in plain Lean: it is what the program's comes to. -/
import Derived.Test.YticocjpfhllelaaXP7
import Derived.Test.YticocjpfhllelaaPP1
namespace Go.Proofs.Yticocjpfhllelaa.Pure
open Go.RowKit Go.Proofs.Yticocjpfhllelaa.XP Go.Proofs.YticocjpfhllelaaW.PrintWords Go.Proofs.YticocjpfhllelaaW.PrintLast

theorem worth_j (K : Nat) : (∀ b x, endonymref11_worth.j0 K b x = puny_value.j0 K b x) ∧ (∀ b x, endonymref11_worth.j1 K b x = puny_value.j1 K b x) := by
  induction K with
  | zero => exact ⟨fun _ _ => rfl, fun _ _ => rfl⟩
  | succ K ih =>
    refine ⟨fun b x => ?_, fun b x => rfl⟩
    simp only [endonymref11_worth.j0, puny_value.j0, ih.2]
theorem worth_f (b : Int) (h0 : 0 ≤ b) (h1 : b < 256) (K : Nat) (hK : 2 ≤ K) : endonymref11_worth.f K b = some (dval b) := by
  rw [← value_f b h0 h1 K hK]
  unfold endonymref11_worth.f puny_value.f
  rw [(worth_j K).1, (worth_j K).1]
theorem rthr_f (k b : Int) (hk0 : 0 ≤ k) (hk : k ≤ 1000000) (hb0 : -1000000 ≤ b) (hb : b ≤ 1000000) : endonymref11_Threshold.f k b = some (thr k b) := thr_f k b hk0 hk hb0 hb

theorem validI_bound {c : Int} (h : validI c = true) : 0 ≤ c ∧ c ≤ 1114111 := by
  unfold validI at h
  simp only [Bool.and_eq_true, decide_eq_true_eq] at h
  omega
theorem insert_length (x : List Int) (m : Nat) (c : Int) (hm : m ≤ x.length) : (x.take m ++ c :: x.drop m).length = x.length + 1 := by simp; omega

/-- Where the next digit is read, ahead of it: so long as m more are there. -/
def RLoop (s : ByteArray) (m p : Nat) : Prop := ∀ (x : List Int) (n i bias st : Int) (k num wt : Int) (v w : Int) (over : Bool),
    x.length + m ≤ 131072 → 0 ≤ n → n ≤ 1114111 → 0 ≤ i → i ≤ x.length → 0 ≤ bias → bias ≤ 800 → 0 ≤ st → 1 ≤ k → k ≤ p + 1 → 0 ≤ num → num ≤ 2147483648 → v = num →
    ((over = false ∧ w = wt ∧ 1 ≤ wt ∧ wt ≤ 2147483647) ∨ (over = true ∧ wt = 2147483648)) →
    (∀ K, 8 * m + 6 ≤ K → endonymref11_Decode.l3 K s p v w over k x n i bias (st == 0) = some (runD ((bytesOf s).drop p) x n i bias st k num wt false)) ∧
    (∀ K, 8 * m + 7 ≤ K → endonymref11_Decode.l2 K s p x n i bias (st == 0) = some (runD ((bytesOf s).drop p) x n i bias st 1 0 1 true))

set_option maxHeartbeats 4000000 in
theorem rdec_digit (s : ByteArray) (hs : s.size ≤ 65536) (m p : Nat) (hm : p + (m + 1) = s.size) (IH : RLoop s m (p + 1)) (x : List Int) (n i bias st : Int)
    (hxl : x.length + (m + 1) ≤ 131072) (hn0 : 0 ≤ n) (hn1 : n ≤ 1114111) (hi0 : 0 ≤ i) (hi1 : i ≤ x.length) (hb0 : 0 ≤ bias) (hb1 : bias ≤ 800) (hs0 : 0 ≤ st) :
    ∀ (k num wt v w : Int) (over : Bool) (fresh : Bool), 1 ≤ k → k ≤ p + 1 → 0 ≤ num → num ≤ 2147483648 → v = num → ((over = false ∧ w = wt ∧ 1 ≤ wt ∧ wt ≤ 2147483647) ∨ (over = true ∧ wt = 2147483648)) →
        ∀ K, 8 * (m + 1) + 6 ≤ K → endonymref11_Decode.l3 K s p v w over k x n i bias (st == 0) = some (runD ((bytesOf s).drop p) x n i bias st k num wt fresh) := by
  intro k num wt v w over fresh hk0 hk1 hm0 hm1 hv how K hK
  obtain ⟨K, rfl⟩ : ∃ q, K = q + 4 := ⟨K - 4, by omega⟩
  have hr := XP.bt_range s p
  obtain ⟨D, hD⟩ : ∃ D, dval (bt s p) = D := ⟨_, rfl⟩
  have HW : Aside0 (∀ Q, 2 ≤ Q → endonymref11_worth.f Q (bt s p) = some D) := ⟨fun Q hQ => by rw [← hD]; exact worth_f _ hr.1 hr.2 Q hQ⟩
  have hd := dval_bound (bt s p)
  rw [hD] at hd
  obtain ⟨T, hT⟩ : ∃ T, thr k bias = T := ⟨_, rfl⟩
  have HT : Aside0 (endonymref11_Threshold.f k bias = some T) := ⟨by rw [← hT]; exact rthr_f k bias (by omega) (by omega) (by omega) (by omega)⟩
  have ht := thr_bound k bias
  rw [hT] at ht
  have HD2 := Aside0.mk hD
  have HT2 := Aside0.mk hT
  clear hD hT hr
  have E1 : Aside0 (wrap64 ((p : Int) + 1) = ((p + 1 : Nat) : Int)) := ⟨by rw [wrap64_id (by omega) (by omega)]; omega⟩
  have EK : Aside0 (wrap64 (k + 1) = k + 1) := ⟨wrap64_id (by omega) (by omega)⟩
  have E36 : Aside0 (wrap64 (36 - T) = 36 - T) := ⟨wrap64_id (by omega) (by omega)⟩
  rw [bytes_at s p (by omega)]
  unfold runD
  simp only [endonymref11_Decode.l3]
  rw [if_neg (by omega), if_pos (by omega), if_pos (by omega), HW.out _ (by omega), HD2.out, HT2.out]
  simp only [Option.bind_some]
  clear HW HD2
  by_cases hd0 : D < 0
  · rw [if_pos hd0, if_pos hd0]
  rw [if_neg hd0, if_neg hd0, E1.out]
  -- the number, the weight behind the digit
  obtain ⟨num', hnum'⟩ : ∃ q, (if 0 < D then min (num + D * wt) 2147483648 else num) = q := ⟨_, rfl⟩
  have hDw0 : 0 ≤ D * wt := by
    rcases how with h | h
    · exact Int.mul_nonneg (by omega) (by omega)
    · exact Int.mul_nonneg (by omega) (by omega)
  have hn' : 0 ≤ num' ∧ num' ≤ 2147483648 := by
    rw [← hnum']
    split <;> omega
  obtain ⟨c, hc⟩ : ∃ c, n + (i + num') / ((x.length : Int) + 1) = c := ⟨_, rfl⟩
  obtain ⟨q, hq⟩ : ∃ q, (i + num') % ((x.length : Int) + 1) = q := ⟨_, rfl⟩
  obtain ⟨ad, had⟩ : ∃ ad, adaptI num' ((x.length : Int) + 1) (st == 0) = ad := ⟨_, rfl⟩
  have hq0 : 0 ≤ q := by rw [← hq]; exact Int.emod_nonneg _ (by omega)
  have hq1 : q < (x.length : Int) + 1 := by rw [← hq]; exact Int.emod_lt_of_pos _ (by omega)
  have had2 := adaptI_bound num' (x.length + 1) (st == 0)
  rw [had] at had2
  simp only [hnum', hc, hq, had]
  have HN := Aside0.mk hnum'
  have HC := Aside0.mk hc
  have HQ := Aside0.mk hq
  have HAD := Aside0.mk had
  clear hnum' hc hq had
  -- what is done behind the number
  have fin : ∀ Q, 8 * m + 9 ≤ Q → endonymref11_Decode.j7 Q s ((p + 1 : Nat) : Int) num' x n i bias (st == 0) =
      some (if 2147483647 < num' then ([], 113) else if c ≤ 1114111 ∧ validI c = true then
        runD ((bytesOf s).drop (p + 1)) (x.take q.toNat ++ c :: x.drop q.toNat) c (q + 1) ad (st + 1) 1 0 1 true
        else ([], 31)) := by
    intro Q hQ
    obtain ⟨Q, rfl⟩ : ∃ q, Q = q + 1 := ⟨Q - 1, by omega⟩
    simp only [endonymref11_Decode.j7]
    by_cases hov : num' > 2147483647
    · rw [if_pos hov, if_pos (by omega)]
    rw [if_neg hov, if_neg (by omega)]
    unfold endonymref11_Step.f
    rw [if_pos ⟨by omega, hn0, hn1, hi0, by omega, hn'.1, by omega⟩]
    simp only [HC.out, HQ.out, HAD.out]
    by_cases hc : c ≤ 1114111 ∧ validI c = true
    · rw [if_pos hc, if_pos hc]
      simp only [Option.bind_some, if_true]
      have hv2 := validI_bound hc.2
      have hl := insert_length x q.toNat c (by omega)
      have h4 := (IH (x.take q.toNat ++ c :: x.drop q.toNat) c (q + 1) ad (st + 1) 1 0 1 0 1 false
        (by rw [hl]; omega) hv2.1 hv2.2 (by omega) (by rw [hl]; omega) had2.1 had2.2 (by omega) (by omega) (by omega) (by omega) (by omega) rfl (.inl ⟨rfl, rfl, by omega, by omega⟩)).2 Q (by omega)
      have e5 : ((st + 1 : Int) == 0) = false := by rw [beq_eq_false_iff_ne]; omega
      rw [e5] at h4
      exact h4
    · rw [if_neg hc, if_neg hc]
      simp
  have FIN := Aside0.mk fin
  have more : ∀ (w' wt' : Int) (over' : Bool), ((over' = false ∧ w' = wt' ∧ 1 ≤ wt' ∧ wt' ≤ 2147483647) ∨ (over' = true ∧ wt' = 2147483648)) → ∀ Q, 8 * m + 6 ≤ Q →
      endonymref11_Decode.l3 Q s ((p + 1 : Nat) : Int) num' w' over' (k + 1) x n i bias (st == 0) = some (runD ((bytesOf s).drop (p + 1)) x n i bias st (k + 1) num' wt' false) := fun w' wt' over' ho Q hQ =>
    (IH x n i bias st (k + 1) num' wt' num' w' over' (by omega) hn0 hn1 hi0 hi1 hb0 hb1 hs0 (by omega) (by omega) hn'.1 hn'.2 rfl ho).1 Q hQ
  have MORE := Aside0.mk more
  clear fin more HC HQ HAD had2
  rcases how with ⟨rfl, rfl, hw0, hw1⟩ | ⟨rfl, rfl⟩
  · rw [if_neg (by simp)]
    simp only [endonymref11_Decode.j5, endonymref11_Decode.j6]
    rw [if_neg (by simp), if_neg (by simp), HT.out]
    simp only [Option.bind_some]
    have hDw : D * w ≤ 35 * 2147483647 := Int.mul_le_mul (by omega) hw1 (by omega) (by omega)
    have en : mn (wrap64 (v + wrap64 (D * w))) 2147483648 = num' := by
      rw [mn_min, wrap64_id (n := D * w) (by omega) (by omega), wrap64_id (by omega) (by omega), ← HN.out, hv]
      split
      · rfl
      · have : D = 0 := by omega
        subst this
        simp
        omega
    rw [en]
    clear en
    by_cases hDt : D < T
    · rw [if_pos hDt, if_neg (by omega)]; exact FIN.out _ (by omega)
    · rw [if_neg hDt, if_pos (by omega), E36.out, EK.out]
      obtain ⟨ww, hww⟩ : ∃ ww, w * (36 - T) = ww := ⟨_, rfl⟩
      have h1 : 0 ≤ ww := by rw [← hww]; exact Int.mul_nonneg (by omega) (by omega)
      have h2 : ww ≤ 2147483647 * 35 := by rw [← hww]; exact Int.mul_le_mul hw1 (by omega) (by omega) (by omega)
      have h3 : 1 ≤ ww := by
        have := Int.mul_le_mul (show (1 : Int) ≤ w from hw0) (show (1 : Int) ≤ 36 - T by omega) (by omega) (by omega)
        omega
      rw [hww, wrap64_id (n := ww) (by omega) (by omega)]
      clear hww
      by_cases hov : ww > 2147483647
      · rw [decide_eq_true hov, show min ww 2147483648 = 2147483648 by omega]
        exact MORE.out _ _ _ (.inr ⟨rfl, rfl⟩) _ (by omega)
      · rw [decide_eq_false hov, show min ww 2147483648 = ww by omega]
        exact MORE.out _ _ _ (.inl ⟨rfl, rfl, by omega, by omega⟩) _ (by omega)
  · rw [if_pos rfl]
    have ev : (if decide (D > 0) = true then (2147483648 : Int) else v) = num' := by
      rw [← HN.out, hv]
      by_cases h : 0 < D
      · rw [if_pos (by simpa using h), if_pos h]; omega
      · rw [if_neg (by simpa using h), if_neg h]
    have hmin : min (2147483648 * (36 - T)) 2147483648 = 2147483648 := by omega
    rw [hmin]
    clear hmin
    have j6 : ∀ Q, 8 * m + 10 ≤ Q → endonymref11_Decode.j6 Q s ((p + 1 : Nat) : Int) num' w true k D x n i bias (st == 0) = some (if T ≤ D then runD ((bytesOf s).drop (p + 1)) x n i bias st (k + 1) num' 2147483648 false else if 2147483647 < num' then ([], 113) else if c ≤ 1114111 ∧ validI c = true then
        runD ((bytesOf s).drop (p + 1)) (x.take q.toNat ++ c :: x.drop q.toNat) c (q + 1) ad (st + 1) 1 0 1 true
        else ([], 31)) := by
      intro Q hQ
      obtain ⟨Q, rfl⟩ : ∃ q, Q = q + 1 := ⟨Q - 1, by omega⟩
      simp only [endonymref11_Decode.j6]
      rw [if_pos (by simp), HT.out]
      simp only [Option.bind_some]
      by_cases hDt : D < T
      · rw [if_pos hDt, if_neg (by omega)]; exact FIN.out _ (by omega)
      · rw [if_neg hDt, if_pos (by omega), EK.out]
        exact MORE.out _ _ _ (.inr ⟨rfl, rfl⟩) _ (by omega)
    simp only [endonymref11_Decode.j5]
    by_cases h : decide (D > 0) = true
    · rw [if_pos h]
      rw [if_pos h] at ev
      subst ev
      exact j6 _ (by omega)
    · rw [if_neg h]
      rw [if_neg h] at ev
      rw [ev]
      exact j6 _ (by omega)

theorem rdec_loop (s : ByteArray) (hs : s.size ≤ 65536) : ∀ (m p : Nat), p + m = s.size → RLoop s m p := by
  intro m
  induction m with
  | zero =>
    intro p hm x n i bias st k num wt v w over hxl hn0 hn1 hi0 hi1 hb0 hb1 hs0 hk0 hk1 hm0 hm1 hv how
    rw [List.drop_eq_nil_of_le (by rw [bytesOf_length]; omega)]
    refine ⟨fun K hK => ?_, fun K hK => ?_⟩
    · obtain ⟨K, rfl⟩ : ∃ q, K = q + 1 := ⟨K - 1, by omega⟩
      simp only [endonymref11_Decode.l3]
      rw [if_pos (by omega)]
      rfl
    · obtain ⟨K, rfl⟩ : ∃ q, K = q + 1 := ⟨K - 1, by omega⟩
      simp only [endonymref11_Decode.l2]
      rw [if_neg (by omega)]
      rfl
  | succ m ih =>
    intro p hm x n i bias st k num wt v w over hxl hn0 hn1 hi0 hi1 hb0 hb1 hs0 hk0 hk1 hm0 hm1 hv how
    have key := rdec_digit s hs m p hm (ih (p + 1) (by omega)) x n i bias st hxl hn0 hn1 hi0 hi1 hb0 hb1 hs0
    refine ⟨fun K hK => key k num wt v w over false hk0 hk1 hm0 hm1 hv how K hK, fun K hK => ?_⟩
    obtain ⟨K, rfl⟩ : ∃ q, K = q + 1 := ⟨K - 1, by omega⟩
    simp only [endonymref11_Decode.l2]
    rw [if_pos (by omega)]
    exact key 1 0 1 0 1 false true (by omega) (by omega) (by omega) (by omega) rfl (.inl ⟨rfl, rfl, by omega, by omega⟩) K (by omega)

theorem rdec_l1 (s : ByteArray) (hs : s.size ≤ 65536) (l : Nat) (hl : l = 0 ∨ l < s.size) : ∀ (m j : Nat) (acc : List Int), j + m = l → acc.length = j → ∀ K, 8 * s.size + 20 + m < K →
    endonymref11_Decode.l1 K s l acc j = decEnd s l (acc ++ ((bytesOf s).drop j).take m)
  | 0, j, acc, h, ha, K, hK => by
    obtain ⟨K, rfl⟩ : ∃ q, K = q + 2 := ⟨K - 2, by omega⟩
    simp only [endonymref11_Decode.l1]
    rw [if_neg (by omega)]
    simp only [List.take_zero, List.append_nil, endonymref11_Begin.f, Option.bind_some]
    unfold decEnd
    by_cases h0 : 0 < l
    · have e1 : wrap64 ((l : Int) + 1) = ((l + 1 : Nat) : Int) := by rw [wrap64_id (by omega) (by omega)]; omega
      rw [if_pos (by omega), e1, if_pos h0]
      simp only [endonymref11_Decode.j2]
      have := (rdec_loop s hs (s.size - (l + 1)) (l + 1) (by omega) acc 128 0 72 0 1 0 1 0 1 false (by omega) (by omega) (by omega) (by omega) (by omega) (by omega) (by omega) (by omega) (by omega) (by omega) (by omega) (by omega) rfl (.inl ⟨rfl, rfl, by omega, by omega⟩)).2 K (by omega)
      exact this
    · rw [if_neg (by omega), if_neg h0]
      simp only [endonymref11_Decode.j2]
      have := (rdec_loop s hs s.size 0 (by omega) acc 128 0 72 0 1 0 1 0 1 false (by omega) (by omega) (by omega) (by omega) (by omega) (by omega) (by omega) (by omega) (by omega) (by omega) (by omega) (by omega) rfl (.inl ⟨rfl, rfl, by omega, by omega⟩)).2 K (by omega)
      rw [List.drop_zero] at this
      exact this
  | m + 1, j, acc, h, ha, K, hK => by
    obtain ⟨K, rfl⟩ : ∃ q, K = q + 1 := ⟨K - 1, by omega⟩
    simp only [endonymref11_Decode.l1]
    have hr := XP.bt_range s j
    have e1 : wrap64 ((j : Int) + 1) = ((j + 1 : Nat) : Int) := by rw [wrap64_id (by omega) (by omega)]; omega
    rw [if_pos (by omega), if_pos (by omega), if_pos (by omega), if_pos (by omega), e1, wrap32_id (by omega) (by omega), rdec_l1 s hs l hl m (j + 1) _ (by omega) (by simp [ha]) K (by omega)]
    congr 1
    rw [bytes_at s j (by omega), List.take_succ_cons]
    simp
theorem rdec_l0 (s : ByteArray) (hs : s.size ≤ 65536) : ∀ (m i l : Nat), i + m = s.size → (l = 0 ∨ l < s.size) → ∀ K, 10 * s.size + 21 + m < K →
    endonymref11_Decode.l0 K s l i = match scanL ((bytesOf s).drop i) i l with
      | none => some ([], 111)
      | some l' => decEnd s l'.toNat ((bytesOf s).take l'.toNat)
  | 0, i, l, h, hl, K, hK => by
    obtain ⟨K, rfl⟩ : ∃ q, K = q + 1 := ⟨K - 1, by omega⟩
    simp only [endonymref11_Decode.l0]
    rw [if_neg (by omega), List.drop_eq_nil_of_le (by rw [bytesOf_length]; omega)]
    simp only [scanL, Int.toNat_natCast]
    have := rdec_l1 s hs l hl l 0 [] (by omega) rfl K (by omega)
    simpa using this
  | m + 1, i, l, h, hl, K, hK => by
    obtain ⟨K, rfl⟩ : ∃ q, K = q + 1 := ⟨K - 1, by omega⟩
    simp only [endonymref11_Decode.l0]
    have e1 : wrap64 ((i : Int) + 1) = ((i + 1 : Nat) : Int) := by rw [wrap64_id (by omega) (by omega)]; omega
    rw [if_pos (by omega), if_pos (by omega), bytes_at s i (by omega), e1]
    unfold scanL
    by_cases h1 : bt s i ≥ 128
    · rw [if_pos h1, if_pos h1]
    · rw [if_neg h1, if_neg h1]
      by_cases h2 : bt s i = 45
      · rw [if_pos h2, if_pos h2]
        exact rdec_l0 s hs m (i + 1) i (by omega) (by omega) K (by omega)
      · rw [if_neg h2, if_neg h2]
        exact rdec_l0 s hs m (i + 1) l (by omega) hl K (by omega)
theorem rdec_f (s : ByteArray) (K : Nat) (hK : 11 * s.size + 21 < K) : endonymref11_Decode.f K s = some (decB (bytesOf s)) := by
  unfold endonymref11_Decode.f decB
  rw [bytesOf_length]
  by_cases h : 65536 < s.size
  · rw [if_pos (by omega), if_pos h]
  · rw [if_neg (by omega), if_neg h]
    have := rdec_l0 s (by omega) s.size 0 0 (by omega) (.inl rfl) K (by omega)
    rw [List.drop_zero] at this
    refine this.trans ?_
    cases hsc : scanL (bytesOf s) (0 : Nat) (0 : Nat) with
    | none => rfl
    | some l =>
      have hb := scanL_bound _ _ _ _ hsc
      simp only [decEnd]
      by_cases h0 : 0 < l
      · rw [if_pos h0, if_pos (by omega)]
      · rw [if_neg h0, if_neg (by omega)]
end Go.Proofs.Yticocjpfhllelaa.Pure
