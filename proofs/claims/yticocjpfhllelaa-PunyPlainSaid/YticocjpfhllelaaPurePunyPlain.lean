/- In plain Lean: what Encode writes is ASCII, and begins with the points below 80 and a hyphen. -/
import Derived.Test.YticocjpfhllelaaXP10
import Derived.Test.YticocjpfhllelaaPP6
import Derived.Test.YticocjpfhllelaaERStep
set_option linter.unusedVariables false
set_option linter.unusedSimpArgs false
namespace Go.Proofs.Yticocjpfhllelaa.Pure
open Go.RowKit Go.Proofs.Yticocjpfhllelaa.XP Go.Proofs.StableSort Go.Proofs.YticocjpfhllelaaW.PrintWords Go.Proofs.YticocjpfhllelaaW.PrintLast

theorem toList_loop (s : ByteArray) : ∀ (m i : Nat) (r : List UInt8), i + m = s.size → (ByteArray.toList.loop s i r).length = r.length + m
  | 0, i, r, h => by
    rw [ByteArray.toList.loop, if_neg (by omega)]
    simp
  | m + 1, i, r, h => by
    rw [ByteArray.toList.loop, if_pos (by omega), toList_loop s m (i + 1) _ (by omega)]
    simp; omega
theorem toList_length (s : ByteArray) : s.toList.length = s.size := by
  have := toList_loop s s.size 0 [] (by omega)
  simpa [ByteArray.toList] using this
theorem toList_nil {s : ByteArray} : s.toList = [] ↔ s.size = 0 := by
  rw [← toList_length]
  exact ⟨fun h => by rw [h]; rfl, fun h => List.eq_nil_of_length_eq_zero h⟩

theorem rsound_l0 (l : List Int) (hN : l.length ≤ 1000000000) : ∀ (m i : Nat), i + m = l.length → ∀ K, m < K → endonymref3_Sound.l0 K l i = some (decide (∀ x ∈ l.drop i, validI x = true))
  | 0, i, h, K, hK => by
    obtain ⟨K, rfl⟩ : ∃ q, K = q + 1 := ⟨K - 1, by omega⟩
    simp only [endonymref3_Sound.l0]
    rw [if_neg (by omega), List.drop_eq_nil_of_le (by omega)]
    simp
  | m + 1, i, h, K, hK => by
    obtain ⟨K, rfl⟩ : ∃ q, K = q + 1 := ⟨K - 1, by omega⟩
    simp only [endonymref3_Sound.l0]
    have e1 : wrap64 ((i : Int) + 1) = ((i + 1 : Nat) : Int) := by rw [wrap64_id (by omega) (by omega)]; omega
    have hi : i < l.length := by omega
    rw [if_pos (by omega), if_pos (by omega), valid3_f, e1, List.drop_eq_getElem_cons hi, ← rd_at l hi]
    simp only [Option.bind_some]
    by_cases hv : validI (rd l i) = true
    · rw [if_pos hv, rsound_l0 l hN m (i + 1) (by omega) K (by omega)]
      simp [hv]
    · rw [if_neg hv]
      simp [hv]
theorem rascii_l0 (l : List Int) (hv : ∀ x ∈ l, validI x = true) (hN : l.length ≤ 1000000000) : ∀ (m i : Nat), i + m = l.length → ∀ K, m < K → endonymref3_ASCII.l0 K l i = some (decide (∀ x ∈ l.drop i, x < 128))
  | 0, i, h, K, hK => by
    obtain ⟨K, rfl⟩ : ∃ q, K = q + 1 := ⟨K - 1, by omega⟩
    simp only [endonymref3_ASCII.l0]
    rw [if_neg (by omega), List.drop_eq_nil_of_le (by omega)]
    simp
  | m + 1, i, h, K, hK => by
    obtain ⟨K, rfl⟩ : ∃ q, K = q + 1 := ⟨K - 1, by omega⟩
    simp only [endonymref3_ASCII.l0]
    have e1 : wrap64 ((i : Int) + 1) = ((i + 1 : Nat) : Int) := by rw [wrap64_id (by omega) (by omega)]; omega
    have hi : i < l.length := by omega
    have hva := validI_at hv hi
    rw [if_pos (by omega), if_pos (by omega), e1, List.drop_eq_getElem_cons hi, ← rd_at l hi, if_neg (by omega)]
    by_cases hp : rd l i > 127
    · rw [if_pos hp]
      have : ¬ rd l i < 128 := by omega
      simp [this]
    · rw [if_neg hp, rascii_l0 l hv hN m (i + 1) (by omega) K (by omega)]
      have : rd l i < 128 := by omega
      simp [this]

/-- The points below 80 ahead of a place. -/
theorem sel_basic_succ (l : List Int) (i : Nat) (hi : i < l.length) : sel l (basicT l l.length) (i + 1) = sel l (basicT l l.length) i ++ if rd l i < 128 then [rd l i] else [] := by
  simp only [sel, basicT]
  by_cases h : rd l i < 128 <;> simp [h, hi]

theorem plain_end (l : List Int) (hv : ∀ x ∈ l, validI x = true) (hN : l.length ≤ 600) (D : List Int) (hD : ∀ x ∈ D, (97 ≤ x ∧ x ≤ 122) ∨ (48 ≤ x ∧ x ≤ 57)) (hDl : D.length ≤ 20 * l.length) (hD0 : D = [] ↔ ∀ x ∈ l, x < 128) :
    ∀ (m j : Nat), j + m = (strOfNums (headL (basics l) ++ D)).size → ∀ K, m + 2000 < K → endonymlaw11_PunyPlain.l1 K l (strOfNums (headL (basics l) ++ D)) (strOfNums (headL (basics l))) j = some true := by
  have hb := basics_range hv
  have hbl := basics_length l
  have hH : ∀ x ∈ headL (basics l), 0 ≤ x ∧ x < 128 := fun x hx => by
    unfold headL at hx
    split at hx
    · rcases List.mem_append.1 hx with hx | hx
      · exact hb x hx
      · simp at hx; omega
    · simp at hx
  have hE : ∀ x ∈ headL (basics l) ++ D, 0 ≤ x ∧ x < 128 := fun x hx => by
    rcases List.mem_append.1 hx with hx | hx
    · exact hH x hx
    · have := hD x hx; omega
  have hhl : (headL (basics l)).length ≤ 601 := by unfold headL; split <;> simp <;> omega
  have hs1 : (strOfNums (headL (basics l) ++ D)).size = (headL (basics l)).length + D.length := by rw [strOfNums_size, List.length_append]
  have hs2 : (strOfNums (headL (basics l))).size = (headL (basics l)).length := strOfNums_size _
  have hbt : bytesOf (strOfNums (headL (basics l) ++ D)) = headL (basics l) ++ D := bytesOf_strOfNums _ (fun x hx => by have := hE x hx; omega)
  intro m
  induction m with
  | zero =>
    intro j hj K hK
    obtain ⟨K, rfl⟩ : ∃ q, K = q + 1 := ⟨K - 1, by omega⟩
    simp only [endonymlaw11_PunyPlain.l1]
    rw [if_neg (by omega), told_f _ (by omega)]
    simp only [Option.bind_some, if_true]
    rw [if_pos (by omega), if_pos (by omega), if_pos (by omega), Int.toNat_natCast]
    have hcut : ((strOfNums (headL (basics l) ++ D)).extract 0 (strOfNums (headL (basics l))).size).toList = (strOfNums (headL (basics l))).toList := by
      congr 1
      apply ByteArray.ext
      rw [hs2, ByteArray.data_extract]
      simp [strOfNums, List.map_append]
    rw [if_pos hcut]
    unfold endonymref3_ASCII.f
    rw [show endonymref3_ASCII.l0 K l 0 = _ from rascii_l0 l hv (by omega) l.length 0 (by omega) K (by omega)]
    simp only [Option.bind_some, List.drop_zero, hs1, hs2]
    congr 1
    by_cases hd : D = []
    · rw [decide_eq_true (hD0.1 hd)]
      subst hd
      simp
    · have hne : ¬ ∀ x ∈ l, x < 128 := fun h => hd (hD0.2 h)
      rw [decide_eq_false hne]
      have : 0 < D.length := List.length_pos_iff.2 hd
      have e : ((((headL (basics l)).length + D.length : Nat) : Int) == ((headL (basics l)).length : Int)) = false := by rw [beq_eq_false_iff_ne]; omega
      rw [e]
      rfl
  | succ m ih =>
    intro j hj K hK
    obtain ⟨K, rfl⟩ : ∃ q, K = q + 1 := ⟨K - 1, by omega⟩
    simp only [endonymlaw11_PunyPlain.l1]
    have e1 : wrap64 ((j : Int) + 1) = ((j + 1 : Nat) : Int) := by rw [wrap64_id (by omega) (by omega)]; omega
    have hjl : j < (headL (basics l) ++ D).length := by rw [List.length_append]; omega
    have hbj : bt (strOfNums (headL (basics l) ++ D)) j < 128 := by
      rw [← rd_bytesOf, hbt, rd_at _ hjl]
      exact (hE _ (List.getElem_mem _)).2
    rw [if_pos (by omega), if_pos (by omega), if_neg (by omega), e1]
    exact ih (j + 1) (by omega) K (by omega)

theorem plain_l0 (l : List Int) (hv : ∀ x ∈ l, validI x = true) (hN : l.length ≤ 600) (s : ByteArray) (K0 : Nat) (hend : ∀ K, K0 ≤ K → endonymlaw11_PunyPlain.l1 K l s (strOfNums (headL (basics l))) 0 = some true) :
    ∀ (m i : Nat), i + m = l.length → ∀ K, m + 2 + K0 < K → endonymlaw11_PunyPlain.l0 K l s (strOfNums (sel l (basicT l l.length) i)) i = some true := by
  have hb := basics_range hv
  have hbl := basics_length l
  intro m
  induction m with
  | zero =>
    intro i hi K hK
    obtain ⟨K, rfl⟩ : ∃ q, K = q + 2 := ⟨K - 2, by omega⟩
    obtain rfl : i = l.length := by omega
    simp only [endonymlaw11_PunyPlain.l0]
    rw [if_neg (by omega), show sel l (basicT l l.length) l.length = basics l from rfl]
    by_cases h0 : 0 < (basics l).length
    · have hne : ¬ (strOfNums (basics l)).toList = [] := fun e => by
        rw [toList_nil, strOfNums_size] at e
        omega
      rw [if_neg hne, strOfNums_size, if_pos (by omega)]
      simp only [endonymlaw11_PunyPlain.j1]
      have e : strOfNums (basics l) ++ ⟨#[45]⟩ = strOfNums (headL (basics l)) := by
        unfold headL
        rw [if_pos h0, strOfNums_append]
        rfl
      rw [e]
      exact hend _ (by omega)
    · have hnil : basics l = [] := List.eq_nil_of_length_eq_zero (by omega)
      have hh : headL (basics l) = [] := by unfold headL; rw [if_neg h0]
      rw [hnil, if_pos (toList_nil.2 (by rw [strOfNums_size]; rfl))]
      simp only [endonymlaw11_PunyPlain.j1]
      have := hend K (by omega)
      rw [hh] at this
      exact this
  | succ m ih =>
    intro i hi K hK
    obtain ⟨K, rfl⟩ : ∃ q, K = q + 1 := ⟨K - 1, by omega⟩
    have hil : i < l.length := by omega
    have hva := validI_at hv hil
    have hsl : (strOfNums (sel l (basicT l l.length) i)).size ≤ i := by rw [strOfNums_size, sel_length]; exact cnt_le _ _
    have e1 : wrap64 ((i : Int) + 1) = ((i + 1 : Nat) : Int) := by rw [wrap64_id (by omega) (by omega)]; omega
    simp only [endonymlaw11_PunyPlain.l0]
    rw [if_pos (by omega), if_pos (by omega), e1]
    have hst := sel_basic_succ l i hil
    by_cases hp : rd l i < 128
    · rw [if_pos hp] at hst
      rw [if_pos hp]
      simp only [Option.bind_some]
      rw [Int.emod_eq_of_lt hva.1 (by omega), strOfNums_size [rd l i], if_pos (by simp; omega), ← strOfNums_append, ← hst]
      exact ih (i + 1) (by omega) K (by omega)
    · rw [if_neg hp, List.append_nil] at hst
      rw [if_neg hp, ← hst]
      exact ih (i + 1) (by omega) K (by omega)

theorem PunyPlain : endonymlaw11_PunyPlain.Pure := by
  intro l0 _ _ _
  refine ⟨40000, ?_⟩
  unfold endonymlaw11_PunyPlain.f endonymlaw11_few.f
  rw [if_pos (by omega), Option.bind_some, show (600 : Int).toNat = 600 from rfl]
  have hl : (l0.take 600).length ≤ 600 := by rw [List.length_take]; omega
  generalize l0.take 600 = l at hl ⊢
  by_cases hv : ∀ x ∈ l, validI x = true
  · obtain ⟨D, h1, h2, h3, h4, h5⟩ := enc_run l hv (by omega)
    rw [show puny_Encode.f l = _ from h1]
    simp only [Option.bind_some, if_true]
    have hbl := basics_length l
    have hhl : (headL (basics l)).length ≤ 601 := by unfold headL; split <;> simp <;> omega
    exact plain_l0 l hv hl (strOfNums (headL (basics l) ++ D)) 16000 (fun K hK => plain_end l hv hl D h2 h3 h4 _ 0 (Nat.zero_add _) K (by rw [strOfNums_size, List.length_append]; omega)) l.length 0 (by omega) 40000 (by omega)
  · have he : puny_Encode.f l = some (⟨#[]⟩, 31) := by
      show encFn l = _
      unfold encFn
      rw [if_neg (by omega), sound_f l (by omega) _ (by omega), decide_eq_false hv]
      rfl
    rw [he]
    simp only [Option.bind_some]
    rw [if_neg (by omega), told_f _ (by omega)]
    simp only [Option.bind_some, if_true]
    rw [if_pos (toList_nil.2 (by rfl))]
    unfold endonymref3_Sound.f
    rw [show endonymref3_Sound.l0 40000 l 0 = _ from rsound_l0 l (by omega) l.length 0 (by omega) 40000 (by omega), List.drop_zero, decide_eq_false hv]
    rfl
end Go.Proofs.Yticocjpfhllelaa.Pure
