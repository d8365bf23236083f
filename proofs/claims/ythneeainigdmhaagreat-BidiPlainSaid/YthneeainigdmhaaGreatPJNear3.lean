/- JoinerNear: what is cut out, by its places. -/
import Derived.Test.YthneeainigdmhaaGreatPJNear2
set_option linter.unusedVariables false
set_option linter.unusedSimpArgs false
namespace Go.Proofs.YthneeainigdmhaaGreat.M
open Go.RowKit
set_option maxHeartbeats 8000000

theorem near_split (x : List Int) (i : Nat) (h : i < x.length) : x = x.take i ++ x[i] :: x.drop (i + 1) :=
  (List.take_append_drop i x).symm.trans (by rw [List.drop_eq_getElem_cons h])
/-- The middle of what is cut out. -/
theorem near_mid (x : List Int) (i l e : Nat) (h : i < x.length) (hl : l ≤ i) (he : i < e) :
    (x.drop l).take (e - l) = (x.take i).drop l ++ x[i] :: (x.drop (i + 1)).take (e - (i + 1)) := by
  have h1 : x.drop l = (x.take i).drop l ++ x[i] :: x.drop (i + 1) := by
    conv => lhs; rw [near_split x i h]
    rw [List.drop_append_of_le_length (by rw [List.length_take]; omega)]
  rw [h1, List.take_append, List.take_of_length_le (by rw [List.length_drop, List.length_take]; omega)]
  congr 1
  rw [List.length_drop, List.length_take, show e - l - (min i x.length - l) = (e - (i + 1)) + 1 by omega, List.take_succ_cons]
theorem near_left (x : List Int) (i l : Nat) (h : i < x.length) (hl : l < i) : (x.take i).drop l = rd x l :: (x.take i).drop (l + 1) := by
  rw [List.drop_eq_getElem_cons (by rw [List.length_take]; omega), List.getElem_take, rd_elem x l (by omega)]
theorem near_right (x : List Int) (i e : Nat) (hi : i < e) (he : e < x.length) : (x.drop (i + 1)).take (e + 1 - (i + 1)) = (x.drop (i + 1)).take (e - (i + 1)) ++ [rd x e] := by
  rw [show e + 1 - (i + 1) = (e - (i + 1)) + 1 by omega, List.take_succ_eq_append_getElem (by rw [List.length_drop]; omega)]
  congr 2
  rw [List.getElem_drop, rd_elem x e he]
  congr 1
  omega
theorem near_cut {J C : Int → Int} (x ah be : List Int) (i m l e : Nat) (q t : List Int) (h : i < x.length) (he : i < e) (hen : e ≤ x.length)
    (hL : (m = 0 ∧ l = 0 ∧ q = []) ∨ (m = l + 1 ∧ l < i ∧ J (rd x l) ≠ 5 ∧ q = ah)) (hm : ∀ k, m ≤ k → k < i → J (rd x k) = 5)
    (hR : (e = x.length ∧ t = []) ∨ (e < x.length ∧ J (rd x e) ≠ 5 ∧ t = be)) (hv : ∀ k, i < k → k < e → J (rd x k) = 5) :
    fitsF J C x i = fitsF J C (q ++ (x.drop l).take (min (e + 1) x.length - l) ++ t) ((q.length + i - l : Nat) : Int) := by
  have hmi : m ≤ i := by omega
  have hu : ∀ z ∈ (x.take i).drop m, J z = 5 := fun z hz => by
    obtain ⟨k, hk, rfl⟩ := List.mem_iff_getElem.1 hz
    rw [List.length_drop, List.length_take] at hk
    have := hm (m + k) (by omega) (by omega)
    rw [rd_elem x (m + k) (by omega)] at this
    rw [List.getElem_drop, List.getElem_take]
    exact this
  have hvv : ∀ z ∈ (x.drop (i + 1)).take (e - (i + 1)), J z = 5 := fun z hz => by
    obtain ⟨k, hk, rfl⟩ := List.mem_iff_getElem.1 hz
    rw [List.length_take, List.length_drop] at hk
    have := hv (i + 1 + k) (by omega) (by omega)
    rw [rd_elem x (i + 1 + k) (by omega)] at this
    rw [List.getElem_take, List.getElem_drop]
    exact this
  have hx : x = x.take m ++ (x.take i).drop m ++ x[i] :: ((x.drop (i + 1)).take (e - (i + 1)) ++ x.drop e) := by
    have e1 : x.take m ++ (x.take i).drop m = x.take i := by
      have := List.take_append_drop m (x.take i)
      rwa [List.take_take, Nat.min_eq_left hmi] at this
    have e2 : (x.drop (i + 1)).take (e - (i + 1)) ++ x.drop e = x.drop (i + 1) := by
      have := List.take_append_drop (e - (i + 1)) (x.drop (i + 1))
      rwa [List.drop_drop, show i + 1 + (e - (i + 1)) = e by omega] at this
    rw [e1, e2]
    exact near_split x i h
  have hul : ((x.take i).drop m).length = i - m := by rw [List.length_drop, List.length_take]; omega
  obtain ⟨s', hs', hs⟩ : ∃ s', (x.drop (i + 1)).take (min (e + 1) x.length - (i + 1)) ++ t = (x.drop (i + 1)).take (e - (i + 1)) ++ s' ∧ firstV J (x.drop e) = firstV J s' := by
    rcases hR with ⟨r1, r2⟩ | ⟨r1, r2, r3⟩
    · refine ⟨[], ?_, ?_⟩
      · rw [r2, r1, Nat.min_eq_right (by omega)]
      · rw [r1, List.drop_of_length_le (Nat.le_refl _)]
    · refine ⟨rd x e :: be, ?_, ?_⟩
      · rw [r3, Nat.min_eq_left (by omega), near_right x i e he r1, List.append_assoc]
        rfl
      · rw [List.drop_eq_getElem_cons r1, ← rd_elem x e r1]
        show (if _ then _ else _) = (if _ then _ else _)
        rw [if_neg r2, if_neg r2]
  obtain ⟨p', hy, hp, he0, hl0, hlen⟩ : ∃ p', q ++ (x.drop l).take (min (e + 1) x.length - l) ++ t = p' ++ (x.take i).drop m ++ x[i] :: ((x.drop (i + 1)).take (e - (i + 1)) ++ s') ∧ firstV J (x.take m).reverse = firstV J p'.reverse ∧
      (x.take m ++ (x.take i).drop m = [] ↔ p' ++ (x.take i).drop m = []) ∧ (x.take m ++ (x.take i).drop m).getLast? = (p' ++ (x.take i).drop m).getLast? ∧ p'.length + (i - m) = q.length + i - l := by
    rw [near_mid x i l (min (e + 1) x.length) h (by omega) (by omega)]
    rcases hL with ⟨r1, r2, r3⟩ | ⟨r1, r2, r3, r4⟩
    · subst r1 r2 r3
      refine ⟨[], ?_, by simp, by simp, by simp, by simp⟩
      rw [← hs']
      simp
    · subst r1 r4
      refine ⟨q ++ [rd x l], ?_, ?_, ?_, ?_, ?_⟩
      · rw [← hs', near_left x i l h r2]
        simp
      · rw [List.take_succ_eq_append_getElem (show l < x.length by omega), List.reverse_append, List.reverse_append, ← rd_elem x l (by omega)]
        show (if _ then _ else _) = (if _ then _ else _)
        rw [if_neg r3, if_neg r3]
      · rw [List.take_succ_eq_append_getElem (show l < x.length by omega)]
        constructor
        · intro hh
          have := congrArg List.length hh
          simp at this
          rw [this.1] at h
          exact absurd h (Nat.not_lt_zero _)
        · intro hh
          have := congrArg List.length hh
          simp at this
      · have e1 : x.take (l + 1) ++ (x.take i).drop (l + 1) = x.take l ++ ([rd x l] ++ (x.take i).drop (l + 1)) := by
          rw [List.take_succ_eq_append_getElem (show l < x.length by omega), ← rd_elem x l (by omega), List.append_assoc]
        rw [e1, List.append_assoc, List.getLast?_append, List.getLast?_append (l := q)]
        cases hc : ([rd x l] ++ (x.take i).drop (l + 1)).getLast? with
        | none => simp at hc
        | some v => rfl
      · rw [List.length_append, List.length_singleton]
        omega
  have key := near_parts (J := J) (C := C) (x.take m) p' (x.drop e) s' ((x.take i).drop m) ((x.drop (i + 1)).take (e - (i + 1))) x[i] hu hvv hp hs he0 hl0
  rw [← hx, ← hy, List.length_append, List.length_append, hul, hlen, List.length_take] at key
  rw [show min m x.length + (i - m) = i by omega] at key
  exact key
end Go.Proofs.YthneeainigdmhaaGreat.M
