/- Encode of a sound sequence, in plain Lean. -/
import Derived.Test.YticocjpfhllelaaPP5
import Derived.Test.YticocjpfhllelaaXP5
set_option linter.unusedVariables false
set_option linter.unusedSimpArgs false
namespace Go.Proofs.Yticocjpfhllelaa.Pure
open Go.RowKit Go.Proofs.Yticocjpfhllelaa.XP Go.Proofs.StableSort Go.Proofs.YticocjpfhllelaaW.PrintWords Go.Proofs.YticocjpfhllelaaW.PrintLast

theorem sound_l0 (l : List Int) (hN : l.length ≤ 1000000000) : ∀ (m i : Nat), i + m = l.length → ∀ K, m < K → scalar_Sound.l0 K l l.length i = some (decide (∀ x ∈ l.drop i, validI x = true))
  | 0, i, h, K, hK => by
    obtain ⟨K, rfl⟩ : ∃ q, K = q + 1 := ⟨K - 1, by omega⟩
    simp only [scalar_Sound.l0]
    rw [if_neg (by omega), List.drop_eq_nil_of_le (by omega)]
    simp
  | m + 1, i, h, K, hK => by
    obtain ⟨K, rfl⟩ : ∃ q, K = q + 1 := ⟨K - 1, by omega⟩
    simp only [scalar_Sound.l0]
    have e1 : wrap64 ((i : Int) + 1) = ((i + 1 : Nat) : Int) := by rw [wrap64_id (by omega) (by omega)]; omega
    have hi : i < l.length := by omega
    rw [if_pos (by omega), if_pos (by omega), if_pos (by omega), valid_f, e1, List.drop_eq_getElem_cons hi, ← rd_at l hi]
    simp only [Option.bind_some]
    by_cases hv : validI (rd l i) = true
    · rw [if_pos hv, sound_l0 l hN m (i + 1) (by omega) K (by omega)]
      simp [hv]
    · rw [if_neg hv]
      simp [hv]
theorem sound_f (l : List Int) (hN : l.length ≤ 1000000000) (K : Nat) (hK : l.length < K) : scalar_Sound.f K l = some (decide (∀ x ∈ l, validI x = true)) := by
  unfold scalar_Sound.f
  have := sound_l0 l hN l.length 0 (by omega) K hK
  simpa using this

theorem mem_oth (l : List Int) : ∀ (b j : Nat), j ∈ oth l b ↔ j < b ∧ ¬ rd l j < 128
  | 0, j => by simp [oth]
  | b + 1, j => by
    simp only [oth, List.mem_append, mem_oth l b j]
    by_cases h : rd l b < 128
    · rw [if_pos h]
      simp only [List.not_mem_nil, or_false]
      refine ⟨fun h1 => ⟨by omega, h1.2⟩, fun h1 => ⟨?_, h1.2⟩⟩
      have : j ≠ b := fun e => h1.2 (e ▸ h)
      omega
    · rw [if_neg h]
      simp only [List.mem_singleton]
      refine ⟨fun h1 => ?_, fun h1 => ?_⟩
      · rcases h1 with h1 | h1
        · exact ⟨by omega, h1.2⟩
        · subst h1; exact ⟨by omega, h⟩
      · by_cases e : j = b
        · exact .inr e
        · exact .inl ⟨by omega, h1.2⟩
theorem oth_nodup (l : List Int) : ∀ b, (oth l b).Pairwise (· < ·)
  | 0 => by simp [oth]
  | b + 1 => by
    simp only [oth]
    rw [List.pairwise_append]
    refine ⟨oth_nodup l b, by split <;> simp, fun x hx y hy => ?_⟩
    have := (mem_oth l b x).1 hx
    split at hy
    · simp at hy
    · simp at hy; omega

theorem ord_places (l : List Int) (O : List Nat) (hO : O.Pairwise (· < ·)) : ∃ R : List Nat, ordP (rd l) (O.map (fun a : Nat => (a : Int))) = R.map (fun a : Nat => (a : Int)) ∧ R.Perm O ∧ R.Pairwise (ltP l) := by
  have hp := ordP_perm (rd l) (O.map (fun a : Nat => (a : Int)))
  have hs := ordP_sorted (rd l) (O.map (fun a : Nat => (a : Int)))
  generalize ordP (rd l) (O.map (fun a : Nat => (a : Int))) = Q at hp hs
  have hnn : ∀ x ∈ Q, 0 ≤ x := fun x hx => by
    obtain ⟨a, _, rfl⟩ := List.mem_map.1 (hp.mem_iff.1 hx)
    omega
  have hQ : Q = (Q.map Int.toNat).map (fun a : Nat => (a : Int)) := by
    rw [List.map_map]
    conv => lhs; rw [← List.map_id Q]
    refine List.map_congr_left fun x hx => ?_
    have := hnn x hx
    simp; omega
  have hR : (Q.map Int.toNat).Perm O := by
    have := hp.map Int.toNat
    rw [List.map_map] at this
    have e : O.map (Int.toNat ∘ fun a : Nat => (a : Int)) = O := by
      conv => rhs; rw [← List.map_id O]
      refine List.map_congr_left fun x hx => by simp
    rwa [e] at this
  refine ⟨Q.map Int.toNat, hQ, hR, ?_⟩
  have hnd : (Q.map Int.toNat).Nodup := hR.nodup_iff.2 (hO.imp (fun h => by omega))
  rw [hQ, List.pairwise_map] at hs
  exact hs.and hnd |>.imp fun {a b} ⟨h1, h2⟩ => by
    unfold leP at h1
    unfold ltP
    rcases h1 with h1 | ⟨h1, h3⟩
    · exact .inl h1
    · exact .inr ⟨h1, by omega⟩

/-- The points below 80. -/
def basics (l : List Int) : List Int := sel l (basicT l l.length) l.length
theorem basics_range {l : List Int} (hv : ∀ x ∈ l, validI x = true) : ∀ x ∈ basics l, 0 ≤ x ∧ x < 128 := by
  have : ∀ b, b ≤ l.length → ∀ x ∈ sel l (basicT l l.length) b, 0 ≤ x ∧ x < 128 := by
    intro b
    induction b with
    | zero => intro _ x hx; simp [sel] at hx
    | succ b ih =>
      intro hb x hx
      simp only [sel] at hx
      rcases List.mem_append.1 hx with hx | hx
      · exact ih (by omega) x hx
      · split at hx
        · rename_i ht
          simp only [List.mem_singleton] at hx
          have := validI_at hv (show b < l.length by omega)
          simp [basicT] at ht
          omega
        · simp at hx
  exact this _ (Nat.le_refl _)
theorem basics_length (l : List Int) : (basics l).length ≤ l.length := by
  unfold basics; rw [sel_length]; exact cnt_le _ _

/-- Encode of a sound sequence that is not too long: it is read as it was. -/
theorem enc_run (l : List Int) (hv : ∀ x ∈ l, validI x = true) (hN : l.length ≤ 1900) : ∃ D : List Int, encFn l = some (strOfNums (headL (basics l) ++ D), 0) ∧ (∀ x ∈ D, (97 ≤ x ∧ x ≤ 122) ∨ (48 ≤ x ∧ x ≤ 57)) ∧ D.length ≤ 20 * l.length ∧
    (D = [] ↔ ∀ x ∈ l, x < 128) ∧ runD D (basics l) 128 0 72 0 1 0 1 true = (l, 0) := by
  have hs := sound_f l (by omega) (l.length + 5) (by omega)
  rw [decide_eq_true hv] at hs
  have hbl := basics_length l
  obtain ⟨c, hA, hF⟩ := encA_run l hv (by omega) l.length 0 (by omega) (List.replicate (l.length + 1) 0) (by
    have : basicT l 0 = fun _ => false := by funext j; simp [basicT]
    rw [this]
    exact Fen.start _ (by omega))
  have e0 : sel l (basicT l 0) l.length = [] := List.eq_nil_of_length_eq_zero (by
    rw [sel_length]
    have : basicT l 0 = fun _ => false := by funext j; simp [basicT]
    rw [this]
    have hc : ∀ b, cnt (fun _ => false) b = 0 := fun b => by induction b with | zero => rfl | succ b ih => simp [cnt, ih]
    exact hc _)
  rw [e0] at hA
  simp only [List.drop_zero, oth, List.map_nil] at hA
  obtain ⟨R, hR1, hR2, hR3⟩ := ord_places l (oth l l.length) (oth_nodup l l.length)
  have hmem : ∀ a, a ∈ R ↔ a < l.length ∧ ¬ rd l a < 128 := fun a => by rw [hR2.mem_iff, mem_oth]
  have hRl : R.length ≤ l.length := by
    have h1 : R.Nodup := hR2.nodup_iff.2 ((oth_nodup l l.length).imp (fun h => by omega))
    have h2 : ∀ b, (oth l b).length ≤ b := fun b => by
      induction b with
      | zero => simp [oth]
      | succ b ih => simp only [oth, List.length_append]; split <;> simp <;> omega
    rw [hR2.length_eq]; exact h2 _
  have hbe : sel l (basicT l l.length) l.length = basics l := rfl
  rw [hbe] at hA
  have hcb : cnt (basicT l l.length) l.length = (basics l).length := (sel_length l _ _).symm
  have hhd : (if 0 < (basics l).length then basics l ++ [45] else basics l) = headL (basics l) := by
    unfold headL
    split
    · rfl
    · exact List.eq_nil_of_length_eq_zero (by omega)
  have hhl : (headL (basics l)).length ≤ l.length + 1 := by unfold headL; split <;> simp <;> omega
  obtain ⟨D, n', i', b', s', h1, h2, h3, h4, h5⟩ := encB_run l hv hN R (basicT l l.length) (headL (basics l)) c 128 0 72 0 hF (fun a ha => by
      have := (hmem a).1 ha
      exact ⟨this.1, by simp [basicT]; omega⟩) hR3 (fun a ha => by have := (hmem a).1 ha; omega) (by omega) (by omega) (by omega) (by omega) (by omega) (by omega) (by omega) (by omega) (by omega)
  have hall : sel l (addAll (basicT l l.length) R) l.length = l := sel_all fun j hj => by
    rw [addAll_true (T := basicT l l.length)]
    simp only [Bool.or_eq_true, decide_eq_true_eq, hmem]
    by_cases h : rd l j < 128
    · left; simp [basicT, h, hj]
    · exact .inr ⟨hj, h⟩
  refine ⟨D, ?_, h2, by omega, ?_, ?_⟩
  · unfold encFn
    rw [if_neg (by omega), hs, Option.bind_some, if_pos rfl, hA, Option.bind_some]
    simp only
    rw [if_pos ⟨hF.len, by omega⟩, hR1, hhd, ← hcb, h1]
  · rw [h4]
    refine ⟨fun e x hx => ?_, fun e => ?_⟩
    · obtain ⟨j, hj, rfl⟩ := List.getElem_of_mem hx
      rw [← rd_at l hj]
      by_cases hb : rd l j < 128
      · exact hb
      · exact absurd ((hmem j).2 ⟨hj, hb⟩) (by rw [e]; simp)
    · refine List.eq_nil_iff_forall_not_mem.2 fun a ha => ?_
      have := (hmem a).1 ha
      exact this.2 (by rw [rd_at l this.1]; exact e _ (List.getElem_mem _))
  · have := h5 []
    rw [List.append_nil, hall] at this
    exact this
end Go.Proofs.Yticocjpfhllelaa.Pure
