/- The two phases of sort.stable_func in plain Lean: blocks are sorted, then merged in pairs. -/
import Derived.Test.YticocjpfhllelaaESort0
namespace Go.Proofs.StableSort
open Go.Shelf Go.RowKit Go.Lib Go.Sort
variable {α : Type} [Inhabited α] {lt tot : α → α → Bool} {n k s : Nat} {d0 d d' : Array α}

structure J1 (lt tot : α → α → Bool) (n k : Nat) (d0 d : Array α) : Prop where
  perm : PermIn 0 n d0 d
  stab : Stab lt tot (k * 20) n d
  done : ∀ t, t < k → SortedIn tot (t * 20) (t * 20 + 20) d
  pre : ∀ t, Pre lt tot 0 (t * 20) n d

theorem J1.start (h : Stab lt tot 0 n d) : J1 lt tot n 0 d d :=
  ⟨permIn_refl _ _ _, by simpa using h, fun t ht => absurd ht (by omega), fun t i j _ hi hj hjn => h i j (by omega) (by omega) hjn⟩
theorem J1.step (h : J1 lt tot n k d0 d) (hn : d.size = n) (hk : k * 20 + 20 ≤ n) (hp : PermIn (k * 20) (k * 20 + 20) d d') (hs : SortedIn tot (k * 20) (k * 20 + 20) d') : J1 lt tot n (k + 1) d0 d' := by
  refine ⟨permIn_trans _ _ _ _ _ h.perm (permIn_mono d d' (k * 20) (k * 20 + 20) 0 n (by omega) hk (by omega) hp), fun i j hi hij hj => ?_, fun t ht => ?_, fun t => ?_⟩
  · rw [hp.2.1 i (by omega), hp.2.1 j (by omega)]
    exact h.stab i j (by omega) hij hj
  · by_cases htk : t = k
    · rw [htk]; exact hs
    · exact SortedIn.out (h.done t (by omega)) hp (.inl (by omega))
  · exact Pre.perm (h.pre t) hp (by omega) (by omega)

structure J2 (lt tot : α → α → Bool) (n s k : Nat) (d0 d : Array α) : Prop where
  perm : PermIn 0 n d0 d
  done : ∀ t, t < k → SortedIn tot (t * (2 * s)) (t * (2 * s) + 2 * s) d
  todo : ∀ t, 2 * k ≤ t → SortedIn tot (t * s) (min (t * s + s) n) d
  pre : ∀ t, (t % 2 = 0 ∨ 2 * k ≤ t) → Pre lt tot 0 (t * s) n d

theorem J1.last (h : J1 lt tot n k d0 d) (hn : d.size = n) (h1 : k * 20 ≤ n) (h2 : n < k * 20 + 20) (hp : PermIn (k * 20) n d d') (hs : SortedIn tot (k * 20) n d') : J2 lt tot n 20 0 d0 d' := by
  refine ⟨permIn_trans _ _ _ _ _ h.perm (permIn_mono d d' (k * 20) n 0 n (by omega) (Nat.le_refl _) (by omega) hp), fun t ht => absurd ht (by omega), fun t _ => ?_, fun t _ => ?_⟩
  · by_cases htk : t < k
    · have := SortedIn.out (h.done t htk) hp (.inl (by omega))
      rw [Nat.min_eq_left (by omega)]; exact this
    · by_cases htk2 : t = k
      · rw [htk2, Nat.min_eq_right (by omega)]; exact hs
      · intro i j hi hij hj
        have : k * 20 + 20 ≤ t * 20 := by omega
        omega
  · intro i j hi hit hj hjn
    by_cases htk : t * 20 ≤ k * 20
    · exact Pre.perm (h.pre t) hp (.inr ⟨htk, Nat.le_refl _⟩) (by omega) i j hi hit hj hjn
    · omega

theorem mul_two (k s : Nat) : k * (2 * s) = (2 * k) * s := by rw [← Nat.mul_assoc, Nat.mul_comm k 2]
theorem J2.step (h : J2 lt tot n s k d0 d) (hn : d.size = n) (hb : k * (2 * s) + 2 * s ≤ n) (hp : PermIn (k * (2 * s)) (k * (2 * s) + 2 * s) d d') (hs : SortedIn tot (k * (2 * s)) (k * (2 * s) + 2 * s) d') : J2 lt tot n s (k + 1) d0 d' := by
  have e2 := mul_two k s
  have up : ∀ t, 2 * (k + 1) ≤ t → k * (2 * s) + 2 * s ≤ t * s := fun t ht => by
    have := Nat.mul_le_mul_right s ht
    rw [show 2 * (k + 1) = 2 * k + 2 by omega, Nat.add_mul] at this
    omega
  refine ⟨permIn_trans _ _ _ _ _ h.perm (permIn_mono d d' _ _ 0 n (by omega) hb (by omega) hp), fun t ht => ?_, fun t ht => ?_, fun t ht => ?_⟩
  · by_cases htk : t = k
    · rw [htk]; exact hs
    · have h3 : (t + 1) * (2 * s) ≤ k * (2 * s) := Nat.mul_le_mul_right _ (by omega)
      rw [Nat.add_mul] at h3
      exact SortedIn.out (h.done t (by omega)) hp (.inl (by omega))
  · exact SortedIn.out (h.todo t (by omega)) hp (.inr (up t ht))
  · have hin : Pre lt tot 0 (t * s) n d := h.pre t (by omega)
    refine Pre.perm hin hp ?_ (by omega)
    rcases Nat.lt_or_ge t (2 * k + 1) with h3 | h3
    · have := Nat.mul_le_mul_right s (show t ≤ 2 * k by omega)
      exact .inr ⟨by omega, by omega⟩
    · have := up t (by omega)
      exact .inl ⟨by omega, by omega⟩
theorem J2.fin (h : J2 lt tot n s k d0 d) (hn : d.size = n) (h1 : k * (2 * s) ≤ n) (h2 : n < k * (2 * s) + 2 * s) (hp : PermIn (k * (2 * s)) n d d') (hs : SortedIn tot (k * (2 * s)) n d') : J2 lt tot n (2 * s) 0 d0 d' := by
  refine ⟨permIn_trans _ _ _ _ _ h.perm (permIn_mono d d' _ n 0 n (by omega) (Nat.le_refl _) (by omega) hp), fun t ht => absurd ht (by omega), fun t _ => ?_, fun t _ => ?_⟩
  · rcases Nat.lt_trichotomy t k with h3 | h3 | h3
    · have h4 : (t + 1) * (2 * s) ≤ k * (2 * s) := Nat.mul_le_mul_right _ (by omega)
      rw [Nat.add_mul] at h4
      rw [Nat.min_eq_left (by omega)]
      exact SortedIn.out (h.done t h3) hp (.inl (by omega))
    · rw [h3, Nat.min_eq_right (by omega)]; exact hs
    · intro i j hi hij hj
      have h4 : (k + 1) * (2 * s) ≤ t * (2 * s) := Nat.mul_le_mul_right _ (by omega)
      rw [Nat.add_mul] at h4
      omega
  · intro i j hi hit hj hjn
    have e2 := mul_two t s
    by_cases htk : t * (2 * s) ≤ k * (2 * s)
    · have := h.pre (2 * t) (.inl (by omega))
      rw [← e2] at this
      exact Pre.perm this hp (.inr ⟨htk, Nat.le_refl _⟩) (by omega) i j hi hit hj hjn
    · have h4 : k < t := by
        rcases Nat.lt_or_ge k t with h4 | h4
        · exact h4
        · exact absurd (Nat.mul_le_mul_right (2 * s) h4) htk
      have h5 : (k + 1) * (2 * s) ≤ t * (2 * s) := Nat.mul_le_mul_right _ (by omega)
      rw [Nat.add_mul] at h5
      omega
/-- The last one is alone. -/
theorem J2.odd (h : J2 lt tot n s k d0 d) (hn : d.size = n) (h1 : k * (2 * s) ≤ n) (h2 : n ≤ k * (2 * s) + s) (h0 : 0 < s) : J2 lt tot n (2 * s) 0 d0 d := by
  refine h.fin hn h1 (by omega) (permIn_refl _ _ _) ?_
  have := h.todo (2 * k) (Nat.le_refl _)
  rw [← mul_two, Nat.min_eq_right (by omega)] at this
  exact this
theorem J2.out (h : J2 lt tot n s 0 d0 d) (hs : n ≤ s) : SortedIn tot 0 n d := by
  have := h.todo 0 (by omega)
  rw [Nat.min_eq_right (by omega)] at this
  simpa using this
/-- What symMerge asks. -/
theorem J2.left (h : J2 lt tot n s k d0 d) (hb : k * (2 * s) + s ≤ n) : SortedIn tot (k * (2 * s)) (k * (2 * s) + s) d := by
  have := h.todo (2 * k) (Nat.le_refl _)
  rw [← mul_two, Nat.min_eq_left (by omega)] at this
  exact this
theorem J2.right (h : J2 lt tot n s k d0 d) {b : Nat} (hb : b = min (k * (2 * s) + 2 * s) n) : SortedIn tot (k * (2 * s) + s) b d := by
  have := h.todo (2 * k + 1) (by omega)
  rw [Nat.add_mul, ← mul_two, Nat.one_mul, show k * (2 * s) + s + s = k * (2 * s) + 2 * s by omega] at this
  rw [hb]; exact this
theorem J2.cut (h : J2 lt tot n s k d0 d) {b : Nat} (hb : b ≤ n) : Pre lt tot (k * (2 * s)) (k * (2 * s) + s) b d := by
  have := h.pre (2 * k + 1) (.inr (by omega))
  rw [Nat.add_mul, ← mul_two, Nat.one_mul] at this
  exact fun i j h1 h2 h3 h4 => this i j (by omega) h2 h3 (by omega)
end Go.Proofs.StableSort
