/- JoinerNear: where the two loops end. -/
import Derived.Test.YthneeainigdmhaaGreatPJNear3
import Derived.Test.YthneeainigdmhaaGreatPFew
set_option linter.unusedVariables false
set_option linter.unusedSimpArgs false
namespace Go.Proofs.YthneeainigdmhaaGreat.M
open Go.RowKit
set_option maxHeartbeats 8000000

/-- Down from k, past those that are T, to 0 at the least. -/
def downT (J : Int → Int) (y : List Int) : Nat → Nat
  | 0 => 0
  | k + 1 => if J (rd y ((k + 1 : Nat) : Int)) = 5 then downT J y k else k + 1
theorem downT_le (J : Int → Int) (y : List Int) : ∀ k, downT J y k ≤ k
  | 0 => Nat.le_refl _
  | k + 1 => by
    unfold downT
    split
    · exact Nat.le_succ_of_le (downT_le J y k)
    · exact Nat.le_refl _
theorem downT_way (J : Int → Int) (y : List Int) : ∀ k j, downT J y k < j → j ≤ k → J (rd y (j : Int)) = 5
  | 0, j, h1, h2 => by omega
  | k + 1, j, h1, h2 => by
    unfold downT at h1
    split at h1
    · rename_i h
      by_cases e : j = k + 1
      · rw [e]; exact h
      · exact downT_way J y k j h1 (by omega)
    · omega
theorem downT_end (J : Int → Int) (y : List Int) : ∀ k, downT J y k = 0 ∨ J (rd y ((downT J y k : Nat) : Int)) ≠ 5
  | 0 => .inl rfl
  | k + 1 => by
    unfold downT
    split
    · exact downT_end J y k
    · rename_i h
      exact .inr h
/-- Up from k, past those that are T. -/
def upT (J : Int → Int) (y : List Int) : Nat → Nat → Nat
  | 0, k => k
  | f + 1, k => if J (rd y (k : Int)) = 5 then upT J y f (k + 1) else k
theorem upT_le (J : Int → Int) (y : List Int) : ∀ f k, k ≤ upT J y f k ∧ upT J y f k ≤ k + f
  | 0, k => ⟨Nat.le_refl _, Nat.le_refl _⟩
  | f + 1, k => by
    unfold upT
    split
    · have := upT_le J y f (k + 1)
      omega
    · omega
theorem upT_way (J : Int → Int) (y : List Int) : ∀ f k j, k ≤ j → j < upT J y f k → J (rd y (j : Int)) = 5
  | 0, k, j, h1, h2 => by simp only [upT] at h2; omega
  | f + 1, k, j, h1, h2 => by
    unfold upT at h2
    split at h2
    · rename_i h
      by_cases e : j = k
      · rw [e]; exact h
      · exact upT_way J y f (k + 1) j (by omega) h2
    · omega
theorem upT_end (J : Int → Int) (y : List Int) : ∀ f k, upT J y f k = k + f ∨ J (rd y ((upT J y f k : Nat) : Int)) ≠ 5
  | 0, k => .inl rfl
  | f + 1, k => by
    unfold upT
    split
    · rcases upT_end J y f (k + 1) with h | h
      · exact .inl (by omega)
      · exact .inr h
    · rename_i h
      exact .inr h
theorem few16_at (A : Option Addr) (c : Nat) (x y : List Int) (n : Int) (m : Nat) (hm : n = (m : Int)) (w : World) (hI : Ints .i32 w A x) (hx : x.length < 4611686018427387904) (hc : x.length ≤ c) (hn : m ≤ 100) (hy : x.take m = y) :
    Calls Tryz.prog 22 #[.slice A x.length c, .int .i64 n] w (RetRow y w) := by
  subst hm
  exact few16_calls A c x y m w hI hx hc hn hy
/-- The numbers from a place on. -/
theorem ints_from {k : IntKind} {w : World} {g : Nat} {l : List Int} (h : Ints k w (some ⟨g, 0, none⟩) l) (n : Nat) : Ints k w (some ⟨g, n, none⟩) (l.drop n) := fun i v hv => by
  rw [List.map_drop, List.getElem?_drop] at hv
  obtain ⟨ad, hA, hc⟩ := h (n + i) v hv
  cases hA
  refine ⟨⟨g, n, none⟩, rfl, ?_⟩
  have e1 : (⟨g, 0, none⟩ : Addr).add (n + i) = ⟨g, n + i, none⟩ := by unfold Addr.add; split <;> simp_all
  have e2 : (⟨g, n, none⟩ : Addr).add i = ⟨g, n + i, none⟩ := by unfold Addr.add; split <;> simp_all
  rw [e2, ← e1]
  exact hc
/-- The numbers of a row of one's own. -/
theorem own_ints' {w : World} {base : Nat} {A : Option Addr} {c : Nat} {l : List Int} (h : w.ownsRow base 21 1 (.slice A l.length c) l.length (l.map (Value.int .i32))) : Ints .i32 w A l := by
  obtain ⟨A', c', he, hi, _⟩ := own_ints h
  cases he
  exact hi
end Go.Proofs.YthneeainigdmhaaGreat.M
