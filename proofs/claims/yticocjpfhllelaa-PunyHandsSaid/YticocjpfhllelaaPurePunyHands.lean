/- In plain Lean: numbers written by hand behind any first points are read, or refused. -/
import Derived.Test.YticocjpfhllelaaXP11
import Derived.Test.YticocjpfhllelaaPP3
set_option linter.unusedVariables false
set_option linter.unusedSimpArgs false
namespace Go.Proofs.Yticocjpfhllelaa.Pure
open Go.RowKit Go.Proofs.Yticocjpfhllelaa.XP Go.Proofs.YticocjpfhllelaaW.PrintWords Go.Proofs.YticocjpfhllelaaW.PrintLast

/-! ### Bytes -/
theorem bytesOf_append (a b : ByteArray) : bytesOf (a ++ b) = bytesOf a ++ bytesOf b := by
  unfold bytesOf
  rw [ByteArray.data_append, Array.toList_append, List.map_append]
theorem bytesOf_strOfNums (xs : List Int) (h : ∀ b ∈ xs, 0 ≤ b ∧ b < 256) : bytesOf (strOfNums xs) = xs := by
  unfold bytesOf strOfNums
  simp only [List.map_map]
  conv => rhs; rw [← List.map_id xs]
  refine List.map_congr_left fun b hb => ?_
  have := h b hb
  simp
  omega
theorem bytesOf_hyphen : bytesOf ⟨#[45]⟩ = [45] := rfl
theorem strOfNums_append (a b : List Int) : strOfNums (a ++ b) = strOfNums a ++ strOfNums b := by
  apply ByteArray.ext
  simp [strOfNums, ByteArray.data_append]

/-! ### What is cut off behind the last hyphen -/
theorem scanL_cons (b : Int) (t : List Int) (i l : Int) : scanL (b :: t) i l = if b ≥ 128 then none else if b = 45 then scanL t (i + 1) i else scanL t (i + 1) l := rfl
theorem scanL_points (t : List Int) : ∀ (w : List Int) (i l : Int), (∀ b ∈ w, b < 128) → ∃ l', scanL (w ++ t) i l = scanL t (i + w.length) l'
  | [], i, l, _ => ⟨l, by simp⟩
  | b :: w, i, l, h => by
    have hb := h b (by simp)
    rw [List.cons_append, scanL_cons, if_neg (by omega)]
    have hl : (i + 1 + (w.length : Int)) = i + ((b :: w).length : Int) := by simp; omega
    split
    · obtain ⟨l', h'⟩ := scanL_points t w (i + 1) i (fun x hx => h x (by simp [hx]))
      exact ⟨l', by rw [h', hl]⟩
    · obtain ⟨l', h'⟩ := scanL_points t w (i + 1) l (fun x hx => h x (by simp [hx]))
      exact ⟨l', by rw [h', hl]⟩
theorem scanL_digits : ∀ (d : List Int) (i l : Int), (∀ b ∈ d, (97 ≤ b ∧ b ≤ 122) ∨ (48 ≤ b ∧ b ≤ 57)) → scanL d i l = some l
  | [], _, _, _ => rfl
  | b :: d, i, l, h => by
    have hb := h b (by simp)
    rw [scanL_cons, if_neg (by omega), if_neg (by omega)]
    exact scanL_digits d (i + 1) l (fun x hx => h x (by simp [hx]))
def headL (w : List Int) : List Int := if 0 < w.length then w ++ [45] else []
theorem decB_head (w d : List Int) (hw : ∀ b ∈ w, b < 128) (hd : ∀ b ∈ d, (97 ≤ b ∧ b ≤ 122) ∨ (48 ≤ b ∧ b ≤ 57)) (hl : w.length + 1 + d.length ≤ 65536) :
    decB (headL w ++ d) = runD d w 128 0 72 0 1 0 1 true := by
  unfold decB headL
  by_cases h : 0 < w.length
  · rw [if_pos h, if_neg (by simp; omega)]
    obtain ⟨l', h'⟩ := scanL_points ([45] ++ d) w 0 0 hw
    rw [List.append_assoc, h', List.singleton_append]
    rw [scanL_cons, if_neg (by omega), if_pos rfl, scanL_digits d _ _ hd]
    simp only [Int.zero_add, Int.toNat_natCast]
    rw [if_pos (by omega)]
    congr 1
    · rw [← List.singleton_append, ← List.append_assoc, List.drop_left' (by simp)]
    · rw [List.take_left' rfl]
  · have : w = [] := List.eq_nil_of_length_eq_zero (by omega)
    subst this
    rw [if_neg h, List.nil_append, if_neg (by omega), scanL_digits d _ _ hd]
    simp

/-! ### The document's digits -/
theorem rdigit_all : ∀ m : Fin 36, endonymref11_digit.f ((m.val : Nat) : Int) = some (dig ((m.val : Nat) : Int)) := by decide
theorem rdigit_f {d : Int} (h0 : 0 ≤ d) (h1 : d < 36) : endonymref11_digit.f d = some (dig d) := by
  obtain ⟨m, rfl⟩ := Int.eq_ofNat_of_zero_le h0
  exact rdigit_all ⟨m, by omega⟩
theorem rnumber_l0 (bias : Int) (hb0 : 0 ≤ bias) (hb1 : bias ≤ 800) : ∀ (f : Nat) (n k : Int) (s : ByteArray), 0 ≤ n → n < 10 ^ f → n ≤ 9000000000000000000 → 1 ≤ k → k + f ≤ 10000 → s.size + f ≤ 10000000000000 → ∀ F K, f < F → f < K →
    endonymref11_number.l0 K n bias s k = some (s ++ strOfNums (numL F n bias k))
  | f, n, k, s, h0, h1, hbig, hk0, hk1, hl, F, K, hF, hK => by
    obtain ⟨K, rfl⟩ : ∃ q, K = q + 1 := ⟨K - 1, by omega⟩
    obtain ⟨F, rfl⟩ : ∃ q, F = q + 1 := ⟨F - 1, by omega⟩
    simp only [endonymref11_number.l0]
    rw [show endonymref11_Threshold.f k bias = some (thr k bias) from thr_f k bias (by omega) (by omega) (by omega) (by omega)]
    unfold numL
    have ht := thr_bound k bias
    generalize thr k bias = t at ht
    simp only [Option.bind_some]
    by_cases hn : n < t
    · rw [if_pos hn, if_pos hn, rdigit_f h0 (by omega)]
      simp only [Option.bind_some]
      rw [strOfNums_size, if_pos (by simp; omega)]
    · rw [if_neg hn, if_neg hn]
      cases f with
      | zero => simp at h1; omega
      | succ f =>
        rw [Int.pow_succ] at h1
        have hx := num_next ht.1 ht.2 hn _ h1 (Int.pow_nonneg (by omega))
        rw [wrap64_id (n := 36 - t) (by omega) (by omega), if_neg (by omega), wrap64_id (n := n - t) (by omega) (by omega), tdiv_pos (show 0 ≤ n - t by omega), Int.tmod_eq_emod_of_nonneg (show 0 ≤ n - t by omega)]
        generalize (n - t) / (36 - t) = q at hx ⊢
        generalize (n - t) % (36 - t) = m at hx ⊢
        rw [wrap64_id (n := t + m) (by omega) (by omega), rdigit_f (by omega) (by omega), wrap64_id (n := q) (by omega) (by omega), wrap64_id (n := k + 1) (by omega) (by omega)]
        simp only [Option.bind_some]
        rw [strOfNums_size, if_pos (by simp; omega), rnumber_l0 bias hb0 hb1 f q (k + 1) _ hx.1 hx.2.1 (by omega) (by omega) (by omega) (by rw [ByteArray.size_append, strOfNums_size]; simp; omega) F K (by omega) (by omega)]
        have e5 : strOfNums (dig (t + m) :: numL F q bias (k + 1)) = strOfNums [dig (t + m)] ++ strOfNums (numL F q bias (k + 1)) := strOfNums_append [dig (t + m)] _
        rw [e5, ByteArray.append_assoc]
theorem written_f (n bias : Int) (hb0 : 0 ≤ bias) (hb1 : bias ≤ 800) (h0 : 0 ≤ n) (h1 : n < 10 ^ 18) (K : Nat) (hK : 18 < K) : endonymref11_Written.f K n bias = some (strOfNums (numL 20 n bias 1)) := by
  unfold endonymref11_Written.f endonymref11_number.f
  have e : mx n 0 = n := by rw [mx_max]; omega
  rw [e, rnumber_l0 bias hb0 hb1 18 n 1 _ h0 h1 (by simp at h1; omega) (by omega) (by omega) (by have : (⟨#[]⟩ : ByteArray).size = 0 := rfl; omega) 20 K (by omega) hK]
  have e2 : (⟨#[]⟩ : ByteArray) ++ strOfNums (numL 20 n bias 1) = strOfNums (numL 20 n bias 1) := by apply ByteArray.ext; simp [ByteArray.data_append]
  rw [e2]
  rfl

/-! ### Masks -/
theorem mask_bound (k : IntKind) (x M : Int) (hM : 0 ≤ M) (hw : ∀ n : Int, 0 ≤ n → n ≤ M → k.wrap n = n) (hb : M < 2 ^ k.bits) : 0 ≤ bits .and k x M ∧ bits .and k x M ≤ M := by
  obtain ⟨m, rfl⟩ := Int.eq_ofNat_of_zero_le hM
  have hm : m < 2 ^ k.bits := by exact_mod_cast hb
  have hle : ((BitVec.ofInt k.bits x) &&& (BitVec.ofInt k.bits (m : Int))).toNat ≤ m := by
    rw [BitVec.toNat_and, BitVec.ofInt_natCast, BitVec.toNat_ofNat, Nat.mod_eq_of_lt hm]
    exact Nat.and_le_right
  simp only [bits]
  rw [hw _ (by omega) (by omega)]
  omega
theorem mask40 (x : Int) : 0 ≤ bits .and .i64 x 1099511627775 ∧ bits .and .i64 x 1099511627775 ≤ 1099511627775 :=
  mask_bound .i64 x _ (by decide) (fun n h0 h1 => by rw [IntKind.wrap_i64]; omega) (by decide)
theorem mask7 (x : Int) : 0 ≤ bits .and .i32 x 127 ∧ bits .and .i32 x 127 ≤ 127 :=
  mask_bound .i32 x _ (by decide) (fun n h0 h1 => by rw [IntKind.wrap_i32]; omega) (by decide)

/-! ### The law -/
theorem rencode_l0 (w : List Int) (hw : ∀ b ∈ w, 0 ≤ b ∧ b < 128) (hl : w.length ≤ 1000000) : ∀ (m i : Nat), i + m = w.length → ∀ K, m < K → endonymref3_Encode.l0 K w (w.take i) i = some (strOfNums w, 0, 0)
  | 0, i, h, K, hK => by
    obtain ⟨K, rfl⟩ : ∃ q, K = q + 1 := ⟨K - 1, by omega⟩
    simp only [endonymref3_Encode.l0]
    rw [if_neg (by omega), List.take_of_length_le (by omega)]
  | m + 1, i, h, K, hK => by
    obtain ⟨K, rfl⟩ : ∃ q, K = q + 1 := ⟨K - 1, by omega⟩
    simp only [endonymref3_Encode.l0]
    have hi : i < w.length := by omega
    have hb := hw w[i] (List.getElem_mem hi)
    have hrd : rd w i = w[i] := by simp [rd, hi]
    have hv : validI w[i] = true := by unfold validI; simp; omega
    rw [if_pos (by omega), if_pos (by omega), hrd, valid3_f, hv]
    simp only [Option.bind_some, if_true]
    unfold endonymref3_Form.f
    rw [if_pos hb.2]
    simp only [Option.bind_some, List.length_singleton]
    have e1 : wrap64 ((i : Int) + 1) = ((i + 1 : Nat) : Int) := by rw [wrap64_id (by omega) (by omega)]; omega
    rw [if_pos (by rw [List.length_take]; omega), e1, Int.emod_eq_of_lt hb.1 (by omega), ← rencode_l0 w hw hl m (i + 1) (by omega) K (by omega)]
    congr 1
    rw [List.take_succ_eq_append_getElem hi]

set_option maxHeartbeats 1000000 in
theorem hands_l1 (l1 w : List Int) (hw : ∀ b ∈ w, 0 ≤ b ∧ b < 128) (hwl : w.length ≤ 60) : ∀ (m j : Nat), j + m = 40 → ∀ (s : ByteArray) (D X : List Int) (n i bias st : Int) (first : Bool), first = (st == 0) →
    bytesOf s = headL w ++ D → (∀ b ∈ D, (97 ≤ b ∧ b ≤ 122) ∨ (48 ≤ b ∧ b ≤ 57)) → D.length ≤ 20 * j → X.length = w.length + j → 0 ≤ n → n ≤ 1114111 → 0 ≤ i → i ≤ X.length → 0 ≤ bias → bias ≤ 800 → 0 ≤ st →
    (∀ rest, runD (D ++ rest) w 128 0 72 0 1 0 1 true = runD rest X n i bias st 1 0 1 true) → ∀ K, 3 * m + 10000 ≤ K →
    endonymlaw11_PunyHands.l1 K l1 s j X n i bias first = some true := by
  intro m
  induction m with
  | zero =>
    intro j hj s D X n i bias st first hf hs hD hDl hX hn0 hn1 hi0 hi1 hb0 hb1 hst hP K hK
    obtain ⟨K, rfl⟩ : ∃ q, K = q + 2 := ⟨K - 2, by omega⟩
    have hsz : s.size ≤ 1000 := by
      rw [← bytesOf_length, hs, List.length_append]
      unfold headL
      split <;> simp <;> omega
    have hdec : ∀ K, 2000 < K + 2 → 3000 ≤ K → puny_Decode.f K s = some (X, 0) := fun K _ hK => by
      have hp := hP []
      rw [List.append_nil] at hp
      rw [dec_f s K (by omega), hs, decB_head w D (fun b hb => (hw b hb).2) hD (by omega), hp]
      rfl
    simp only [endonymlaw11_PunyHands.l1, endonymlaw11_PunyHands.j4]
    have e40 : decide ((j : Int) < 40) = false := decide_eq_false (by omega)
    rw [e40]
    simp only [Bool.false_eq_true, if_false, ite_self]
    rw [hdec _ (by omega) (by omega), told_f _ (by omega)]
    simp only [Option.bind_some, if_true]
    rw [same_f X _ (by omega) (by omega)]
    rfl
  | succ m ih =>
    intro j hj s D X n i bias st first hf hs hD hDl hX hn0 hn1 hi0 hi1 hb0 hb1 hst hP K hK
    obtain ⟨K, rfl⟩ : ∃ q, K = q + 3 := ⟨K - 3, by omega⟩
    have hsz : s.size ≤ 1000 := by
      rw [← bytesOf_length, hs, List.length_append]
      unfold headL
      split <;> simp <;> omega
    simp only [endonymlaw11_PunyHands.l1]
    by_cases hlen : (j : Int) < (l1.length : Int)
    case neg =>
      rw [if_neg hlen]
      simp only [endonymlaw11_PunyHands.j4]
      have hp := hP []
      rw [List.append_nil] at hp
      rw [if_neg (by simp), dec_f s _ (by omega), hs, decB_head w D (fun b hb => (hw b hb).2) hD (by omega), hp, told_f _ (by omega)]
      simp only [Option.bind_some, if_true, runD]
      rw [same_f X _ (by omega) (by omega)]
      rfl
    rw [if_pos hlen]
    have e40 : decide ((j : Int) < 40) = true := decide_eq_true (by omega)
    rw [e40]
    simp only [endonymlaw11_PunyHands.j4, if_true]
    rw [if_pos (by omega), if_pos hlen]
    have hd := mask40 (rd l1 j)
    generalize bits .and .i64 (rd l1 j) 1099511627775 = d at hd ⊢
    rw [written_f d bias hb0 hb1 hd.1 (by omega) _ (by omega)]
    simp only [Option.bind_some]
    have hnl := numL_length 20 d bias 1
    have hnr := numL_range 18 20 d bias 1 hd.1 (by omega)
    have hread := fun rest => read_one d bias hd.1 (by omega) rest X n i st true
    generalize numL 20 d bias 1 = L at hnl hnr hread ⊢
    rw [strOfNums_size, if_pos (by omega)]
    have hs2 : bytesOf (s ++ strOfNums L) = headL w ++ (D ++ L) := by
      rw [bytesOf_append, hs, bytesOf_strOfNums _ (fun b hb => by have := hnr b hb; omega), List.append_assoc]
    have hD2 : ∀ b ∈ D ++ L, (97 ≤ b ∧ b ≤ 122) ∨ (48 ≤ b ∧ b ≤ 57) := fun b hb => by
      rcases List.mem_append.1 hb with hb | hb
      · exact hD b hb
      · exact hnr b hb
    have hsz2 : (s ++ strOfNums L).size ≤ 1100 := by rw [ByteArray.size_append, strOfNums_size]; omega
    have hdl : (D ++ L).length ≤ 20 * (j + 1) := by rw [List.length_append]; omega
    have hP2 : ∀ rest, runD ((D ++ L) ++ rest) w 128 0 72 0 1 0 1 true = finD rest X n i bias st (min d 2147483648) := fun rest => by
      rw [List.append_assoc, hP, hread]
    generalize D ++ L = D1 at hs2 hD2 hdl hP2
    generalize s ++ strOfNums L = s1 at hs2 hsz2 ⊢
    clear hnl hnr hread hD hDl hs hP hsz
    have HS2 := Aside0.mk hs2
    clear hs2
    have bad : ∀ (K : Nat) (x13 : Bool) (Y : List Int) (n' i' b' : Int) (f' : Bool) (e : Int), 9000 ≤ K → x13 = false → finD [] X n i bias st (min d 2147483648) = ([], e) → ((e == 113) == decide (d > 2147483647)) = true → ((e == 31) == decide (d ≤ 2147483647)) = true →
        endonymlaw11_PunyHands.j5 K l1 s1 j d x13 Y n' i' b' f' = some true := by
      intro K x13 Y n' i' b' f' e hK hx he h113 h31
      obtain ⟨K, rfl⟩ : ∃ q, K = q + 1 := ⟨K - 1, by omega⟩
      have hp := hP2 []
      rw [List.append_nil] at hp
      simp only [endonymlaw11_PunyHands.j5]
      rw [hx, if_neg (by simp), dec_f _ _ (by omega), HS2.out, decB_head w _ (fun b hb => (hw b hb).2) hD2 (by omega), hp, he, told_f _ (by omega)]
      simp only [Option.bind_some, if_true, List.length_nil]
      rw [if_pos (by rfl), if_pos h113, h31]
    have hq0 : 0 ≤ (i + d) % ((X.length : Int) + 1) := Int.emod_nonneg _ (by omega)
    have hq1 : (i + d) % ((X.length : Int) + 1) < X.length + 1 := Int.emod_lt_of_pos _ (by omega)
    have had := adaptI_bound d ((X.length : Int) + 1) first
    by_cases hover : d ≤ 2147483647
    · rw [if_pos hover]
      unfold endonymref11_Step.f
      rw [if_pos ⟨by omega, hn0, hn1, hi0, by omega, hd.1, by omega⟩]
      simp only
      have hmin : min d 2147483648 = d := by omega
      rw [hmin] at hP2 bad
      unfold finD at hP2 bad
      rw [← hf] at hP2 bad
      generalize n + (i + d) / ((X.length : Int) + 1) = c at hP2 bad ⊢
      generalize (i + d) % ((X.length : Int) + 1) = q at hP2 bad hq0 hq1 ⊢
      generalize adaptI d ((X.length : Int) + 1) first = ad at hP2 bad had ⊢
      by_cases hc : c ≤ 1114111 ∧ validI c = true
      · rw [if_pos hc]
        simp only [Option.bind_some, endonymlaw11_PunyHands.j5, if_true]
        have hc0 : 0 ≤ c := by
          have := hc.2
          unfold validI at this
          simp only [Bool.and_eq_true, decide_eq_true_eq] at this
          exact this.1.1
        have hfin : ∀ rest, runD (D1 ++ rest) w 128 0 72 0 1 0 1 true = runD rest (X.take q.toNat ++ c :: X.drop q.toNat) c (q + 1) ad (st + 1) 1 0 1 true := fun rest => by
          rw [hP2, if_neg (by omega), if_pos hc]
        have hl2 : (X.take q.toNat ++ c :: X.drop q.toNat).length = X.length + 1 := by simp; omega
        have e1 : wrap64 ((j : Int) + 1) = ((j + 1 : Nat) : Int) := by rw [wrap64_id (by omega) (by omega)]; omega
        rw [e1]
        clear e1 bad hP2
        generalize X.take q.toNat ++ c :: X.drop q.toNat = X1 at hl2 hfin ⊢
        exact ih (j + 1) (by omega) s1 D1 X1 c (q + 1) ad (st + 1) false (by rw [eq_comm, beq_eq_false_iff_ne]; omega) HS2.out hD2 hdl (by omega) hc0 hc.1 (by omega) (by omega) had.1 had.2 (by omega) hfin _ (by omega)
      · rw [if_neg hc]
        simp only [Option.bind_some]
        refine bad _ _ _ _ _ _ _ 31 (by omega) rfl ?_ ?_ ?_
        · rw [if_neg (by omega), if_neg hc]
        · rw [decide_eq_false (show ¬ d > 2147483647 by omega)]; decide
        · rw [decide_eq_true hover]; decide
    · rw [if_neg hover]
      refine bad _ _ _ _ _ _ _ 113 (by omega) (decide_eq_false hover) ?_ ?_ ?_
      · unfold finD
        rw [if_pos (by omega)]
      · rw [decide_eq_true (show d > 2147483647 by omega)]; decide
      · rw [decide_eq_false hover]; decide

theorem hands_l0 (l0 l1 : List Int) (hl : l0.length ≤ 1000000000000000) : ∀ (m i : Nat) (w : List Int), i + m = 60 → w.length = i → i ≤ l0.length → (∀ b ∈ w, 0 ≤ b ∧ b < 128) → ∀ K, m + 11000 < K → endonymlaw11_PunyHands.l0 K l0 l1 w i = some true := by
  have done : ∀ (w : List Int), w.length ≤ 60 → (∀ b ∈ w, 0 ≤ b ∧ b < 128) → ∀ K, 10999 < K → endonymlaw11_PunyHands.j1 K l1 w = some true := by
    intro w hwl hw K hK
    obtain ⟨K, rfl⟩ : ∃ q, K = q + 2 := ⟨K - 2, by omega⟩
    simp only [endonymlaw11_PunyHands.j1]
    have he := rencode_l0 w hw (by omega) w.length 0 (by omega)
    unfold endonymref3_Encode.f
    rw [show endonymref3_Encode.l0 (K + 1) w [] 0 = some (strOfNums w, 0, 0) from he _ (by omega)]
    simp only [Option.bind_some]
    have hb : bytesOf (strOfNums w) = w := bytesOf_strOfNums w (fun b hb => by have := hw b hb; omega)
    by_cases h : (w.length : Int) > 0
    · rw [if_pos h, strOfNums_size, if_pos (by omega)]
      simp only [endonymlaw11_PunyHands.j2, endonymref11_Begin.f, Option.bind_some]
      refine hands_l1 l1 w hw hwl 40 0 (by omega) _ [] w 128 0 72 0 true rfl ?_ (by simp) (by simp) (by simp) (by omega) (by omega) (by omega) (by omega) (by omega) (by omega) (by omega) (fun rest => rfl) _ (by omega)
      rw [bytesOf_append, hb, bytesOf_hyphen]
      unfold headL
      rw [if_pos (by omega), List.append_nil]
    · rw [if_neg h]
      simp only [endonymlaw11_PunyHands.j2, endonymref11_Begin.f, Option.bind_some]
      refine hands_l1 l1 w hw hwl 40 0 (by omega) _ [] w 128 0 72 0 true rfl ?_ (by simp) (by simp) (by simp) (by omega) (by omega) (by omega) (by omega) (by omega) (by omega) (by omega) (fun rest => rfl) _ (by omega)
      rw [hb]
      unfold headL
      rw [if_neg (by omega)]
      exact List.eq_nil_of_length_eq_zero (by omega)
  intro m
  induction m with
  | zero =>
    intro i w hi hw hil hwb K hK
    obtain ⟨K, rfl⟩ : ∃ q, K = q + 1 := ⟨K - 1, by omega⟩
    simp only [endonymlaw11_PunyHands.l0]
    rw [if_neg (show ¬ (i : Int) < 60 by omega), ite_self]
    exact done w (by omega) hwb K (by omega)
  | succ m ih =>
    intro i w hi hw hil hwb K hK
    obtain ⟨K, rfl⟩ : ∃ q, K = q + 1 := ⟨K - 1, by omega⟩
    simp only [endonymlaw11_PunyHands.l0]
    by_cases h : (i : Int) < (l0.length : Int)
    · have e1 : wrap64 ((i : Int) + 1) = ((i + 1 : Nat) : Int) := by rw [wrap64_id (by omega) (by omega)]; omega
      rw [if_pos h, if_pos (by omega), if_pos (by omega), if_pos (by omega), e1]
      refine ih (i + 1) _ (by omega) (by simp; omega) (by omega) (fun b hb => ?_) K (by omega)
      rcases List.mem_append.1 hb with hb | hb
      · exact hwb b hb
      · have := mask7 (rd l0 i)
        simp only [List.mem_singleton] at hb
        omega
    · rw [if_neg h]
      exact done w (by omega) hwb K (by omega)

theorem PunyHands : endonymlaw11_PunyHands.Pure := by
  intro l0 l1 _ h2 _ _ _ _
  refine ⟨12000, ?_⟩
  unfold endonymlaw11_PunyHands.f
  exact hands_l0 l0 l1 (by omega) 60 0 [] (by omega) rfl (by omega) (by simp) 12000 (by omega)
end Go.Proofs.Yticocjpfhllelaa.Pure
