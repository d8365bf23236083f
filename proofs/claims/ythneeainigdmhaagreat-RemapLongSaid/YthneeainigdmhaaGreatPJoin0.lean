/- Joiners: the plain law. -/
import Derived.Test.YthneeainigdmhaaGreatK01
set_option linter.unusedVariables false
set_option linter.unusedSimpArgs false
namespace Go.Proofs.YthneeainigdmhaaGreat.M
open Go.RowKit
set_option maxHeartbeats 8000000

/-- The joining type of the first that is not T; T, if there is none. -/
def firstV (J : Int → Int) : List Int → Int
  | [] => 5
  | a :: r => if J a = 5 then firstV J r else J a
/-- Going from k by st one meets L. -/
def Way (x : List Int) (st : Int) : Int → List Int → Prop
  | k, [] => k < 0 ∨ (x.length : Int) ≤ k
  | k, a :: r => 0 ≤ k ∧ k < x.length ∧ rd x k = a ∧ Way x st (k + st) r
theorem rd_elem (x : List Int) (i : Nat) (h : i < x.length) : rd x i = x[i] := by simp [rd, h]
theorem way_up (x : List Int) : ∀ (n i : Nat), i + n = x.length → Way x 1 i (x.drop i)
  | 0, i, h => by
    rw [List.drop_of_length_le (by omega)]
    exact .inr (by omega)
  | n + 1, i, h => by
    rw [List.drop_eq_getElem_cons (by omega)]
    exact ⟨by omega, by omega, rd_elem x i (by omega), way_up x n (i + 1) (by omega)⟩
theorem way_down (x : List Int) : ∀ i : Nat, i ≤ x.length → Way x (-1) ((i : Int) - 1) (x.take i).reverse
  | 0, _ => .inl (by omega)
  | i + 1, h => by
    rw [List.take_succ_eq_append_getElem (by omega), List.reverse_append]
    have := way_down x i (by omega)
    refine ⟨by omega, by omega, ?_, ?_⟩
    · rw [show ((i + 1 : Nat) : Int) - 1 = (i : Int) by omega]
      exact rd_elem x i (by omega)
    · rw [show ((i + 1 : Nat) : Int) - 1 + -1 = (i : Int) - 1 by omega]
      exact this
def okL (v : Int) : Bool := v == 2 || v == 3
def okR (v : Int) : Bool := v == 1 || v == 3
/-- Whether a joiner fits (16.1). -/
def fitsF (J C : Int → Int) (x : List Int) (i : Int) : Bool :=
  if i < 0 ∨ (x.length : Int) ≤ i then false
  else if rd x i ≠ 8204 ∧ rd x i ≠ 8205 then true
  else if 0 < i ∧ C (rd x (i - 1)) = 9 then true
  else if rd x i = 8205 then false
  else okL (firstV J (x.take i.toNat).reverse) && okR (firstV J (x.drop (i.toNat + 1)))
def badJ (J C : Int → Int) (x : List Int) : Nat → Nat → Int
  | 0, _ => -1
  | k + 1, i => if fitsF J C x i = true then badJ J C x k (i + 1) else i
/-- The first place where one does not (16.2). -/
def checkJ (J C : Int → Int) (x : List Int) : Int := badJ J C x x.length 0
end Go.Proofs.YthneeainigdmhaaGreat.M
