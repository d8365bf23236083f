/- In plain Lean: Decode is the document's, at any bytes. -/
import Derived.Test.YticocjpfhllelaaXP8
import Derived.Test.YticocjpfhllelaaPP2
namespace Go.Proofs.Yticocjpfhllelaa.Pure
open Go.RowKit Go.Proofs.Yticocjpfhllelaa.XP Go.Proofs.YticocjpfhllelaaW.PrintWords Go.Proofs.YticocjpfhllelaaW.PrintLast

theorem runD_length : ∀ (bs x : List Int) (n i bias st k num wt : Int) (fresh : Bool), (runD bs x n i bias st k num wt fresh).1.length ≤ x.length + bs.length
  | [], x, _, _, _, _, _, _, _, fresh => by unfold runD; split <;> simp
  | b :: bs, x, n, i, bias, st, k, num, wt, fresh => by
    unfold runD
    simp only [List.length_cons]
    (repeat' split) <;> first
      | exact Nat.zero_le _
      | (refine Nat.le_trans (runD_length bs _ _ _ _ _ _ _ _ _) ?_; simp only [List.length_append, List.length_take, List.length_cons, List.length_drop]; omega)
      | (refine Nat.le_trans (runD_length bs _ _ _ _ _ _ _ _ _) ?_; omega)
theorem decB_length (bs : List Int) : (decB bs).1.length ≤ 2 * bs.length := by
  unfold decB
  split
  · simp
  · split
    · simp
    · refine Nat.le_trans (runD_length _ _ _ _ _ _ _ _ _ _) ?_
      split <;> simp <;> omega

theorem decodes_l0 (x : List Int) (hx : x.length ≤ 1000000) : ∀ (m i : Nat) (y : List Int), i + m = y.length → y.length = x.length → ∀ K, m + x.length + 1 < K → endonymlaw11_PunyDecodes.l0 K y x x i = some true
  | 0, i, y, h, hy, K, hK => by
    obtain ⟨K, rfl⟩ : ∃ q, K = q + 1 := ⟨K - 1, by omega⟩
    simp only [endonymlaw11_PunyDecodes.l0]
    have e1 : wrap64 ((x.length : Int) + 1) = (x.length : Int) + 1 := wrap64_id (by omega) (by omega)
    rw [if_neg (by omega), if_pos (by omega), e1, if_pos (by simp; omega), same_f x K (by omega) (by omega)]
    rfl
  | m + 1, i, y, h, hy, K, hK => by
    obtain ⟨K, rfl⟩ : ∃ q, K = q + 1 := ⟨K - 1, by omega⟩
    simp only [endonymlaw11_PunyDecodes.l0]
    have e1 : wrap64 ((i : Int) + 1) = ((i + 1 : Nat) : Int) := by rw [wrap64_id (by omega) (by omega)]; omega
    rw [if_pos (by omega), if_pos (by omega), e1]
    exact decodes_l0 x hx m (i + 1) _ (by simp; omega) (by simp; omega) K (by omega)

theorem PunyDecodes : endonymlaw11_PunyDecodes.Pure := by
  intro a0 _
  refine ⟨40000, ?_⟩
  unfold endonymlaw11_PunyDecodes.f
  rw [mn_min, if_pos (by omega), if_pos (by omega)]
  obtain ⟨n, hn⟩ : ∃ n : Nat, min (a0.size : Int) 1200 = n := ⟨min a0.size 1200, by omega⟩
  rw [hn, Int.toNat_natCast]
  have hs : (a0.extract 0 n).size ≤ 1200 := by rw [ByteArray.size_extract]; omega
  generalize a0.extract 0 n = s at hs ⊢
  rw [dec_f s 40000 (by omega), rdec_f s 40000 (by omega), told_f 40000 (by omega)]
  simp only [Option.bind_some, if_true]
  have hl := decB_length (bytesOf s)
  rw [bytesOf_length] at hl
  generalize decB (bytesOf s) = X at hl ⊢
  rw [same_f X.1 40000 (by omega) (by omega)]
  simp only [Option.bind_some, if_true]
  rw [show (X.2 != X.2) = false by simp]
  simp only [endonymlaw11_PunyDecodes.j0]
  rw [if_neg (by simp)]
  exact decodes_l0 X.1 (by omega) X.1.length 0 X.1 (by omega) rfl _ (by omega)

end Go.Proofs.Yticocjpfhllelaa.Pure
