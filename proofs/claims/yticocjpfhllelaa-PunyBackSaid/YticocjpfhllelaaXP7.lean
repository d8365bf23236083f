-- Written by xprint.py, a program of this session's own, out of the translation.
import Derived.Test.YticocjpfhllelaaXP0
import Derived.Test.YticocjpfhllelaaXP2
import Derived.Test.YticocjpfhllelaaXP5
import Derived.Test.YticocjpfhllelaaXP6
import Derived.Test.YticocjpfhllelaaERStep
namespace Go.Proofs.Yticocjpfhllelaa.XP
open Go.RowKit Go.Proofs.YticocjpfhllelaaW.PrintWords Go.Proofs.YticocjpfhllelaaW.PrintLast Go.Proofs.YticocjpfhllelaaW.PrintMore
attribute [local go_sem] max2_int min2_int max_two min_two max_three min_three max_four min_four   -- for this text's walks alone
set_option linter.unusedVariables false
set_option linter.unusedSimpArgs false

/-! ### endonymref11_Decode: function 16 -/
mutual
def endonymref11_Decode.l0 : Nat → ByteArray → Int → Int → Option (List Int × Int)
  | 0, _, _, _ => none
  | k + 1, x0, x4, x5 => if x5 < (x0.size : Int) then (if 0 ≤ x5 then (if (bt x0 x5) ≥ 128 then (some (([] : List Int), 111)) else (if (bt x0 x5) = 45 then (endonymref11_Decode.l0 k x0 x5 (wrap64 (x5 + 1))) else (endonymref11_Decode.l0 k x0 x4 (wrap64 (x5 + 1))))) else (none)) else (endonymref11_Decode.l1 k x0 x4 ([] : List Int) 0)
def endonymref11_Decode.l1 : Nat → ByteArray → Int → List Int → Int → Option (List Int × Int)
  | 0, _, _, _, _ => none
  | k + 1, x0, x4, x6, x7 => if x7 < x4 then (if 0 ≤ x7 then (if x7 < (x0.size : Int) then (if x6.length < 35184372088832 then (endonymref11_Decode.l1 k x0 x4 (x6 ++ [wrap32 (bt x0 x7)]) (wrap64 (x7 + 1))) else (none)) else (none)) else (none)) else ((endonymref11_Begin.f x6).bind fun bt193 => (if x4 > 0 then (endonymref11_Decode.j2 k x0 (wrap64 (x4 + 1)) bt193.1 bt193.2.1 bt193.2.2.1 bt193.2.2.2.1 bt193.2.2.2.2) else (endonymref11_Decode.j2 k x0 0 bt193.1 bt193.2.1 bt193.2.2.1 bt193.2.2.2.1 bt193.2.2.2.2)))
def endonymref11_Decode.j2 : Nat → ByteArray → Int → List Int → Int → Int → Int → Bool → Option (List Int × Int)
  | 0, _, _, _, _, _, _, _ => none
  | k + 1, x0, x9, x201000, x201001, x201002, x201003, x201004 => endonymref11_Decode.l2 k x0 x9 x201000 x201001 x201002 x201003 x201004
def endonymref11_Decode.l2 : Nat → ByteArray → Int → List Int → Int → Int → Int → Bool → Option (List Int × Int)
  | 0, _, _, _, _, _, _, _ => none
  | k + 1, x0, x9, x201000, x201001, x201002, x201003, x201004 => if x9 < (x0.size : Int) then (endonymref11_Decode.l3 k x0 x9 0 1 false 1 x201000 x201001 x201002 x201003 x201004) else (some (x201000, 0))
def endonymref11_Decode.j7 : Nat → ByteArray → Int → Int → List Int → Int → Int → Int → Bool → Option (List Int × Int)
  | 0, _, _, _, _, _, _, _, _ => none
  | k + 1, x0, x9, x10, x201000, x201001, x201002, x201003, x201004 => if x10 > 2147483647 then (some (([] : List Int), 113)) else ((endonymref11_Step.f x201000 x201001 x201002 x201003 x201004 x10).bind fun bt204 => (if bt204.2.2.2.2.2 = true then (endonymref11_Decode.l2 k x0 x9 bt204.1 bt204.2.1 bt204.2.2.1 bt204.2.2.2.1 bt204.2.2.2.2.1) else (some (([] : List Int), 31))))
def endonymref11_Decode.l3 : Nat → ByteArray → Int → Int → Int → Bool → Int → List Int → Int → Int → Int → Bool → Option (List Int × Int)
  | 0, _, _, _, _, _, _, _, _, _, _, _ => none
  | k + 1, x0, x9, x10, x11, x12, x13, x201000, x201001, x201002, x201003, x201004 => if x9 = (x0.size : Int) then (some (([] : List Int), 112)) else (if 0 ≤ x9 then (if x9 < (x0.size : Int) then ((endonymref11_worth.f k (bt x0 x9)).bind fun t201 => (if t201 < 0 then (some (([] : List Int), 110)) else (if x12 = true then (endonymref11_Decode.j5 k x0 (wrap64 (x9 + 1)) x10 x11 x12 x13 t201 (decide (t201 > 0)) x201000 x201001 x201002 x201003 x201004) else (endonymref11_Decode.j5 k x0 (wrap64 (x9 + 1)) x10 x11 x12 x13 t201 false x201000 x201001 x201002 x201003 x201004)))) else (none)) else (none))
def endonymref11_Decode.j5 : Nat → ByteArray → Int → Int → Int → Bool → Int → Int → Bool → List Int → Int → Int → Int → Bool → Option (List Int × Int)
  | 0, _, _, _, _, _, _, _, _, _, _, _, _, _ => none
  | k + 1, x0, x9, x10, x11, x12, x13, x14, x75, x201000, x201001, x201002, x201003, x201004 => if x75 = true then (endonymref11_Decode.j6 k x0 x9 2147483648 x11 x12 x13 x14 x201000 x201001 x201002 x201003 x201004) else (endonymref11_Decode.j6 k x0 x9 x10 x11 x12 x13 x14 x201000 x201001 x201002 x201003 x201004)
def endonymref11_Decode.j6 : Nat → ByteArray → Int → Int → Int → Bool → Int → Int → List Int → Int → Int → Int → Bool → Option (List Int × Int)
  | 0, _, _, _, _, _, _, _, _, _, _, _, _ => none
  | k + 1, x0, x9, x10, x11, x12, x13, x14, x201000, x201001, x201002, x201003, x201004 => if x12 = true then ((endonymref11_Threshold.f x13 x201003).bind fun t202 => (if x14 < t202 then (endonymref11_Decode.j7 k x0 x9 x10 x201000 x201001 x201002 x201003 x201004) else (endonymref11_Decode.l3 k x0 x9 x10 (wrap64 (x11 * (wrap64 (36 - t202)))) true (wrap64 (x13 + 1)) x201000 x201001 x201002 x201003 x201004))) else ((endonymref11_Threshold.f x13 x201003).bind fun t203 => (if x14 < t203 then (endonymref11_Decode.j7 k x0 x9 (mn (wrap64 (x10 + (wrap64 (x14 * x11)))) 2147483648) x201000 x201001 x201002 x201003 x201004) else (endonymref11_Decode.l3 k x0 x9 (mn (wrap64 (x10 + (wrap64 (x14 * x11)))) 2147483648) (wrap64 (x11 * (wrap64 (36 - t203)))) (decide ((wrap64 (x11 * (wrap64 (36 - t203)))) > 2147483647)) (wrap64 (x13 + 1)) x201000 x201001 x201002 x201003 x201004)))
end
def endonymref11_Decode.f (k : Nat) (a0 : ByteArray) : Option (List Int × Int) := if (a0.size : Int) > 65536 then (some (([] : List Int), 2)) else (endonymref11_Decode.l0 k a0 0 0)
theorem endonymref11_Decode.mono_l : ∀ k, (∀ y0 y1 y2, LeO (endonymref11_Decode.l0 k y0 y1 y2) (endonymref11_Decode.l0 (k + 1) y0 y1 y2)) ∧ (∀ y0 y1 y2 y3, LeO (endonymref11_Decode.l1 k y0 y1 y2 y3) (endonymref11_Decode.l1 (k + 1) y0 y1 y2 y3)) ∧ (∀ y0 y1 y2 y3 y4 y5 y6, LeO (endonymref11_Decode.j2 k y0 y1 y2 y3 y4 y5 y6) (endonymref11_Decode.j2 (k + 1) y0 y1 y2 y3 y4 y5 y6)) ∧ (∀ y0 y1 y2 y3 y4 y5 y6, LeO (endonymref11_Decode.l2 k y0 y1 y2 y3 y4 y5 y6) (endonymref11_Decode.l2 (k + 1) y0 y1 y2 y3 y4 y5 y6)) ∧ (∀ y0 y1 y2 y3 y4 y5 y6 y7, LeO (endonymref11_Decode.j7 k y0 y1 y2 y3 y4 y5 y6 y7) (endonymref11_Decode.j7 (k + 1) y0 y1 y2 y3 y4 y5 y6 y7)) ∧ (∀ y0 y1 y2 y3 y4 y5 y6 y7 y8 y9 y10, LeO (endonymref11_Decode.l3 k y0 y1 y2 y3 y4 y5 y6 y7 y8 y9 y10) (endonymref11_Decode.l3 (k + 1) y0 y1 y2 y3 y4 y5 y6 y7 y8 y9 y10)) ∧ (∀ y0 y1 y2 y3 y4 y5 y6 y7 y8 y9 y10 y11 y12, LeO (endonymref11_Decode.j5 k y0 y1 y2 y3 y4 y5 y6 y7 y8 y9 y10 y11 y12) (endonymref11_Decode.j5 (k + 1) y0 y1 y2 y3 y4 y5 y6 y7 y8 y9 y10 y11 y12)) ∧ (∀ y0 y1 y2 y3 y4 y5 y6 y7 y8 y9 y10 y11, LeO (endonymref11_Decode.j6 k y0 y1 y2 y3 y4 y5 y6 y7 y8 y9 y10 y11) (endonymref11_Decode.j6 (k + 1) y0 y1 y2 y3 y4 y5 y6 y7 y8 y9 y10 y11))
  | 0 => ⟨fun _ _ _ r h => by simp [endonymref11_Decode.l0] at h, fun _ _ _ _ r h => by simp [endonymref11_Decode.l1] at h, fun _ _ _ _ _ _ _ r h => by simp [endonymref11_Decode.j2] at h, fun _ _ _ _ _ _ _ r h => by simp [endonymref11_Decode.l2] at h, fun _ _ _ _ _ _ _ _ r h => by simp [endonymref11_Decode.j7] at h, fun _ _ _ _ _ _ _ _ _ _ _ r h => by simp [endonymref11_Decode.l3] at h, fun _ _ _ _ _ _ _ _ _ _ _ _ _ r h => by simp [endonymref11_Decode.j5] at h, fun _ _ _ _ _ _ _ _ _ _ _ _ r h => by simp [endonymref11_Decode.j6] at h⟩
  | k + 1 => by
    obtain ⟨ih0, ih1, ih2, ih3, ih4, ih5, ih6, ih7⟩ := endonymref11_Decode.mono_l k
    refine ⟨?_, ?_, ?_, ?_, ?_, ?_, ?_, ?_⟩
    · intro y0 y1 y2
      unfold endonymref11_Decode.l0
      repeat' first
      | (with_reducible exact ih0 _ _ _)
      | (with_reducible exact ih1 _ _ _ _)
      | (with_reducible exact ih2 _ _ _ _ _ _ _)
      | (with_reducible exact ih3 _ _ _ _ _ _ _)
      | (with_reducible exact ih4 _ _ _ _ _ _ _ _)
      | (with_reducible exact ih5 _ _ _ _ _ _ _ _ _ _ _)
      | (with_reducible exact ih6 _ _ _ _ _ _ _ _ _ _ _ _ _)
      | (with_reducible exact ih7 _ _ _ _ _ _ _ _ _ _ _ _)
      | (with_reducible exact endonymref11_worth.mono _ _)
      | (with_reducible exact LeO.refl _)
      | (with_reducible exact LeO.none _)
      | (with_reducible refine LeO.ite ?_ ?_)
      | (with_reducible refine LeO.bind ?_ (fun _ => ?_))
      | exact ih0 _ _ _
      | exact ih1 _ _ _ _
      | exact ih2 _ _ _ _ _ _ _
      | exact ih3 _ _ _ _ _ _ _
      | exact ih4 _ _ _ _ _ _ _ _
      | exact ih5 _ _ _ _ _ _ _ _ _ _ _
      | exact ih6 _ _ _ _ _ _ _ _ _ _ _ _ _
      | exact ih7 _ _ _ _ _ _ _ _ _ _ _ _
      | exact endonymref11_worth.mono _ _
      | exact LeO.none _
      | refine LeO.ite ?_ ?_
      | refine LeO.bind ?_ (fun _ => ?_)
    · intro y0 y1 y2 y3
      unfold endonymref11_Decode.l1
      repeat' first
      | (with_reducible exact ih0 _ _ _)
      | (with_reducible exact ih1 _ _ _ _)
      | (with_reducible exact ih2 _ _ _ _ _ _ _)
      | (with_reducible exact ih3 _ _ _ _ _ _ _)
      | (with_reducible exact ih4 _ _ _ _ _ _ _ _)
      | (with_reducible exact ih5 _ _ _ _ _ _ _ _ _ _ _)
      | (with_reducible exact ih6 _ _ _ _ _ _ _ _ _ _ _ _ _)
      | (with_reducible exact ih7 _ _ _ _ _ _ _ _ _ _ _ _)
      | (with_reducible exact endonymref11_worth.mono _ _)
      | (with_reducible exact LeO.refl _)
      | (with_reducible exact LeO.none _)
      | (with_reducible refine LeO.ite ?_ ?_)
      | (with_reducible refine LeO.bind ?_ (fun _ => ?_))
      | exact ih0 _ _ _
      | exact ih1 _ _ _ _
      | exact ih2 _ _ _ _ _ _ _
      | exact ih3 _ _ _ _ _ _ _
      | exact ih4 _ _ _ _ _ _ _ _
      | exact ih5 _ _ _ _ _ _ _ _ _ _ _
      | exact ih6 _ _ _ _ _ _ _ _ _ _ _ _ _
      | exact ih7 _ _ _ _ _ _ _ _ _ _ _ _
      | exact endonymref11_worth.mono _ _
      | exact LeO.none _
      | refine LeO.ite ?_ ?_
      | refine LeO.bind ?_ (fun _ => ?_)
    · intro y0 y1 y2 y3 y4 y5 y6
      unfold endonymref11_Decode.j2
      repeat' first
      | (with_reducible exact ih0 _ _ _)
      | (with_reducible exact ih1 _ _ _ _)
      | (with_reducible exact ih2 _ _ _ _ _ _ _)
      | (with_reducible exact ih3 _ _ _ _ _ _ _)
      | (with_reducible exact ih4 _ _ _ _ _ _ _ _)
      | (with_reducible exact ih5 _ _ _ _ _ _ _ _ _ _ _)
      | (with_reducible exact ih6 _ _ _ _ _ _ _ _ _ _ _ _ _)
      | (with_reducible exact ih7 _ _ _ _ _ _ _ _ _ _ _ _)
      | (with_reducible exact endonymref11_worth.mono _ _)
      | (with_reducible exact LeO.refl _)
      | (with_reducible exact LeO.none _)
      | (with_reducible refine LeO.ite ?_ ?_)
      | (with_reducible refine LeO.bind ?_ (fun _ => ?_))
      | exact ih0 _ _ _
      | exact ih1 _ _ _ _
      | exact ih2 _ _ _ _ _ _ _
      | exact ih3 _ _ _ _ _ _ _
      | exact ih4 _ _ _ _ _ _ _ _
      | exact ih5 _ _ _ _ _ _ _ _ _ _ _
      | exact ih6 _ _ _ _ _ _ _ _ _ _ _ _ _
      | exact ih7 _ _ _ _ _ _ _ _ _ _ _ _
      | exact endonymref11_worth.mono _ _
      | exact LeO.none _
      | refine LeO.ite ?_ ?_
      | refine LeO.bind ?_ (fun _ => ?_)
    · intro y0 y1 y2 y3 y4 y5 y6
      unfold endonymref11_Decode.l2
      repeat' first
      | (with_reducible exact ih0 _ _ _)
      | (with_reducible exact ih1 _ _ _ _)
      | (with_reducible exact ih2 _ _ _ _ _ _ _)
      | (with_reducible exact ih3 _ _ _ _ _ _ _)
      | (with_reducible exact ih4 _ _ _ _ _ _ _ _)
      | (with_reducible exact ih5 _ _ _ _ _ _ _ _ _ _ _)
      | (with_reducible exact ih6 _ _ _ _ _ _ _ _ _ _ _ _ _)
      | (with_reducible exact ih7 _ _ _ _ _ _ _ _ _ _ _ _)
      | (with_reducible exact endonymref11_worth.mono _ _)
      | (with_reducible exact LeO.refl _)
      | (with_reducible exact LeO.none _)
      | (with_reducible refine LeO.ite ?_ ?_)
      | (with_reducible refine LeO.bind ?_ (fun _ => ?_))
      | exact ih0 _ _ _
      | exact ih1 _ _ _ _
      | exact ih2 _ _ _ _ _ _ _
      | exact ih3 _ _ _ _ _ _ _
      | exact ih4 _ _ _ _ _ _ _ _
      | exact ih5 _ _ _ _ _ _ _ _ _ _ _
      | exact ih6 _ _ _ _ _ _ _ _ _ _ _ _ _
      | exact ih7 _ _ _ _ _ _ _ _ _ _ _ _
      | exact endonymref11_worth.mono _ _
      | exact LeO.none _
      | refine LeO.ite ?_ ?_
      | refine LeO.bind ?_ (fun _ => ?_)
    · intro y0 y1 y2 y3 y4 y5 y6 y7
      unfold endonymref11_Decode.j7
      repeat' first
      | (with_reducible exact ih0 _ _ _)
      | (with_reducible exact ih1 _ _ _ _)
      | (with_reducible exact ih2 _ _ _ _ _ _ _)
      | (with_reducible exact ih3 _ _ _ _ _ _ _)
      | (with_reducible exact ih4 _ _ _ _ _ _ _ _)
      | (with_reducible exact ih5 _ _ _ _ _ _ _ _ _ _ _)
      | (with_reducible exact ih6 _ _ _ _ _ _ _ _ _ _ _ _ _)
      | (with_reducible exact ih7 _ _ _ _ _ _ _ _ _ _ _ _)
      | (with_reducible exact endonymref11_worth.mono _ _)
      | (with_reducible exact LeO.refl _)
      | (with_reducible exact LeO.none _)
      | (with_reducible refine LeO.ite ?_ ?_)
      | (with_reducible refine LeO.bind ?_ (fun _ => ?_))
      | exact ih0 _ _ _
      | exact ih1 _ _ _ _
      | exact ih2 _ _ _ _ _ _ _
      | exact ih3 _ _ _ _ _ _ _
      | exact ih4 _ _ _ _ _ _ _ _
      | exact ih5 _ _ _ _ _ _ _ _ _ _ _
      | exact ih6 _ _ _ _ _ _ _ _ _ _ _ _ _
      | exact ih7 _ _ _ _ _ _ _ _ _ _ _ _
      | exact endonymref11_worth.mono _ _
      | exact LeO.none _
      | refine LeO.ite ?_ ?_
      | refine LeO.bind ?_ (fun _ => ?_)
    · intro y0 y1 y2 y3 y4 y5 y6 y7 y8 y9 y10
      unfold endonymref11_Decode.l3
      repeat' first
      | (with_reducible exact ih0 _ _ _)
      | (with_reducible exact ih1 _ _ _ _)
      | (with_reducible exact ih2 _ _ _ _ _ _ _)
      | (with_reducible exact ih3 _ _ _ _ _ _ _)
      | (with_reducible exact ih4 _ _ _ _ _ _ _ _)
      | (with_reducible exact ih5 _ _ _ _ _ _ _ _ _ _ _)
      | (with_reducible exact ih6 _ _ _ _ _ _ _ _ _ _ _ _ _)
      | (with_reducible exact ih7 _ _ _ _ _ _ _ _ _ _ _ _)
      | (with_reducible exact endonymref11_worth.mono _ _)
      | (with_reducible exact LeO.refl _)
      | (with_reducible exact LeO.none _)
      | (with_reducible refine LeO.ite ?_ ?_)
      | (with_reducible refine LeO.bind ?_ (fun _ => ?_))
      | exact ih0 _ _ _
      | exact ih1 _ _ _ _
      | exact ih2 _ _ _ _ _ _ _
      | exact ih3 _ _ _ _ _ _ _
      | exact ih4 _ _ _ _ _ _ _ _
      | exact ih5 _ _ _ _ _ _ _ _ _ _ _
      | exact ih6 _ _ _ _ _ _ _ _ _ _ _ _ _
      | exact ih7 _ _ _ _ _ _ _ _ _ _ _ _
      | exact endonymref11_worth.mono _ _
      | exact LeO.none _
      | refine LeO.ite ?_ ?_
      | refine LeO.bind ?_ (fun _ => ?_)
    · intro y0 y1 y2 y3 y4 y5 y6 y7 y8 y9 y10 y11 y12
      unfold endonymref11_Decode.j5
      repeat' first
      | (with_reducible exact ih0 _ _ _)
      | (with_reducible exact ih1 _ _ _ _)
      | (with_reducible exact ih2 _ _ _ _ _ _ _)
      | (with_reducible exact ih3 _ _ _ _ _ _ _)
      | (with_reducible exact ih4 _ _ _ _ _ _ _ _)
      | (with_reducible exact ih5 _ _ _ _ _ _ _ _ _ _ _)
      | (with_reducible exact ih6 _ _ _ _ _ _ _ _ _ _ _ _ _)
      | (with_reducible exact ih7 _ _ _ _ _ _ _ _ _ _ _ _)
      | (with_reducible exact endonymref11_worth.mono _ _)
      | (with_reducible exact LeO.refl _)
      | (with_reducible exact LeO.none _)
      | (with_reducible refine LeO.ite ?_ ?_)
      | (with_reducible refine LeO.bind ?_ (fun _ => ?_))
      | exact ih0 _ _ _
      | exact ih1 _ _ _ _
      | exact ih2 _ _ _ _ _ _ _
      | exact ih3 _ _ _ _ _ _ _
      | exact ih4 _ _ _ _ _ _ _ _
      | exact ih5 _ _ _ _ _ _ _ _ _ _ _
      | exact ih6 _ _ _ _ _ _ _ _ _ _ _ _ _
      | exact ih7 _ _ _ _ _ _ _ _ _ _ _ _
      | exact endonymref11_worth.mono _ _
      | exact LeO.none _
      | refine LeO.ite ?_ ?_
      | refine LeO.bind ?_ (fun _ => ?_)
    · intro y0 y1 y2 y3 y4 y5 y6 y7 y8 y9 y10 y11
      unfold endonymref11_Decode.j6
      repeat' first
      | (with_reducible exact ih0 _ _ _)
      | (with_reducible exact ih1 _ _ _ _)
      | (with_reducible exact ih2 _ _ _ _ _ _ _)
      | (with_reducible exact ih3 _ _ _ _ _ _ _)
      | (with_reducible exact ih4 _ _ _ _ _ _ _ _)
      | (with_reducible exact ih5 _ _ _ _ _ _ _ _ _ _ _)
      | (with_reducible exact ih6 _ _ _ _ _ _ _ _ _ _ _ _ _)
      | (with_reducible exact ih7 _ _ _ _ _ _ _ _ _ _ _ _)
      | (with_reducible exact endonymref11_worth.mono _ _)
      | (with_reducible exact LeO.refl _)
      | (with_reducible exact LeO.none _)
      | (with_reducible refine LeO.ite ?_ ?_)
      | (with_reducible refine LeO.bind ?_ (fun _ => ?_))
      | exact ih0 _ _ _
      | exact ih1 _ _ _ _
      | exact ih2 _ _ _ _ _ _ _
      | exact ih3 _ _ _ _ _ _ _
      | exact ih4 _ _ _ _ _ _ _ _
      | exact ih5 _ _ _ _ _ _ _ _ _ _ _
      | exact ih6 _ _ _ _ _ _ _ _ _ _ _ _ _
      | exact ih7 _ _ _ _ _ _ _ _ _ _ _ _
      | exact endonymref11_worth.mono _ _
      | exact LeO.none _
      | refine LeO.ite ?_ ?_
      | refine LeO.bind ?_ (fun _ => ?_)
theorem endonymref11_Decode.mono : ∀ a0 k, LeO (endonymref11_Decode.f k a0) (endonymref11_Decode.f (k + 1) a0) := by
  intro a0 k
  obtain ⟨ih0, ih1, ih2, ih3, ih4, ih5, ih6, ih7⟩ := endonymref11_Decode.mono_l k
  unfold endonymref11_Decode.f
  repeat' first
      | (with_reducible exact ih0 _ _ _)
      | (with_reducible exact ih1 _ _ _ _)
      | (with_reducible exact ih2 _ _ _ _ _ _ _)
      | (with_reducible exact ih3 _ _ _ _ _ _ _)
      | (with_reducible exact ih4 _ _ _ _ _ _ _ _)
      | (with_reducible exact ih5 _ _ _ _ _ _ _ _ _ _ _)
      | (with_reducible exact ih6 _ _ _ _ _ _ _ _ _ _ _ _ _)
      | (with_reducible exact ih7 _ _ _ _ _ _ _ _ _ _ _ _)
      | (with_reducible exact endonymref11_worth.mono _ _)
      | (with_reducible exact LeO.refl _)
      | (with_reducible exact LeO.none _)
      | (with_reducible refine LeO.ite ?_ ?_)
      | (with_reducible refine LeO.bind ?_ (fun _ => ?_))
      | exact ih0 _ _ _
      | exact ih1 _ _ _ _
      | exact ih2 _ _ _ _ _ _ _
      | exact ih3 _ _ _ _ _ _ _
      | exact ih4 _ _ _ _ _ _ _ _
      | exact ih5 _ _ _ _ _ _ _ _ _ _ _
      | exact ih6 _ _ _ _ _ _ _ _ _ _ _ _ _
      | exact ih7 _ _ _ _ _ _ _ _ _ _ _ _
      | exact endonymref11_worth.mono _ _
      | exact LeO.none _
      | refine LeO.ite ?_ ?_
      | refine LeO.bind ?_ (fun _ => ?_)
set_option maxHeartbeats 8000000 in
set_option maxRecDepth 100000 in
theorem endonymref11_Decode.calls (k : Nat) (a0 : ByteArray) (r1 : List Int) (r2 : Int) (w : World) (h : endonymref11_Decode.f k a0 = some (r1, r2)) :
    Calls Try.prog 16 #[.string a0] w fun e w' => ∃ v0_ : Value, e = .returned (.tuple #[v0_, .int .i64 r2]) ∧ Kd.R (Kd.int .i32) 21 w' w.heap.size (fun _ => True) v0_ r1 ∧ Below w.heap.size w w' := by
  have hu45 := Try.underlying45
  have HB := Aside0.mk (Below.refl w.heap.size w)
  have H : (if (a0.size : Int) > 65536 then (some (([] : List Int), 2)) else (endonymref11_Decode.l0 k a0 0 0)) = some (r1, r2) := h
  clear h
  by_cases c2 : (a0.size : Int) > 65536
  · rw [if_pos c2] at H
    have c2b0 : decide (65536 < (a0.size : Int)) = true := decide_eq_true c2
    have c2b1 : decide (65536 < a0.size) = true := decide_eq_true (by omega)
    clear c2
    simp only [Option.some.injEq, Prod.mk.injEq] at H
    obtain ⟨rfl, rfl⟩ := H
    go_enter Try.func16, Try.ntmps16
    go_wp2
    go_ret2
    exact ⟨_, by first | rfl | (simp [errW_none, errW_some] <;> rfl) | (simp [*, errW_none, errW_some] <;> rfl), by first | exact Kd.R_nil _ _ _ _ _ | exact Kd.N_nil _ _ _ _ _ | exact Kd.V_nil _ _ _ _ _ | exact Kd.Q_nil _ _ _ _ _ | exact Kd.S_nil _ _ _ _ _, by repeat (first | (with_reducible first | exact HB.out | apply below_alloc | apply pw_below_drewN | apply below_drew1) | exact HB.out)⟩
  · rw [if_neg c2] at H
    have c2b0 : decide (65536 < (a0.size : Int)) = false := decide_eq_false c2
    have c2b1 : decide (65536 < a0.size) = false := decide_eq_false (by omega)
    clear c2
    have H' := Aside0.mk H
    clear H
    go_enter Try.func16, Try.ntmps16
    go_wp2
    go_loopg [4, 5] k (fun kq v4 v5 w' => ∃ (x4_1 : Int) (x5_1 : Int), v4 = .int .i64 x4_1 ∧ v5 = .int .i64 x5_1 ∧ Aside0 (endonymref11_Decode.l0 kq a0 x4_1 x5_1 = some (r1, r2)) ∧ Aside0 (kq ≤ k) ∧ Aside0 (Below w.heap.size w w'))
    case atStart => exact ⟨(0), (0), (by first | rfl | (simp; done) | (simp [*]; done)), (by first | rfl | (simp; done) | (simp [*]; done)), H', ⟨Nat.le_refl _⟩, ⟨by repeat (first | (with_reducible first | exact HB.out | apply below_alloc | apply pw_below_drewN | apply below_drew1) | exact HB.out)⟩⟩
    case round =>
      clear H'
      try clear c1
      try clear c2
      try clear c2b0
      try clear c2b1
      try clear p2
      obtain ⟨x4_1, x5_1, rfl, rfl, HA, HK1, HB⟩ := hrel
      cases gk with
      | zero => exact absurd HA.out (by simp [endonymref11_Decode.l0])
      | succ k1 =>
        have H := HA.out
        clear HA
        simp only [endonymref11_Decode.l0] at H
        by_cases c3 : x5_1 < (a0.size : Int)
        · rw [if_pos c3] at H
          have c3b0 : decide (x5_1 < (a0.size : Int)) = true := decide_eq_true c3
          clear c3
          by_cases c4 : 0 ≤ x5_1
          · rw [if_pos c4] at H
            have c4b0 : decide (0 ≤ x5_1) = true := decide_eq_true c4
            clear c4
            by_cases c6 : (bt a0 x5_1) ≥ 128
            · rw [if_pos c6] at H
              have c6b0 : decide (128 ≤ (bt a0 x5_1)) = true := decide_eq_true c6
              clear c6
              simp only [Option.some.injEq, Prod.mk.injEq] at H
              obtain ⟨rfl, rfl⟩ := H
              have p5 : 0 ≤ (x5_1 : Int) := of_decide_eq_true (by first | (with_reducible assumption) | assumption)
              have q5 : x5_1 < (a0.size : Int) := of_decide_eq_true (by first | (with_reducible assumption) | assumption)
              have hx5 := bt_at a0 x5_1
              replace p5 := eq_true p5
              replace q5 := eq_true q5
              go_wp2
              go_ret2
              exact ⟨_, by first | rfl | (simp [errW_none, errW_some] <;> rfl) | (simp [*, errW_none, errW_some] <;> rfl), by first | exact Kd.R_nil _ _ _ _ _ | exact Kd.N_nil _ _ _ _ _ | exact Kd.V_nil _ _ _ _ _ | exact Kd.Q_nil _ _ _ _ _ | exact Kd.S_nil _ _ _ _ _, by repeat (first | (with_reducible first | exact HB.out | apply below_alloc | apply pw_below_drewN | apply below_drew1) | exact HB.out)⟩
            · rw [if_neg c6] at H
              have c6b0 : decide (128 ≤ (bt a0 x5_1)) = false := decide_eq_false c6
              clear c6
              by_cases c8 : (bt a0 x5_1) = 45
              · rw [if_pos c8] at H
                have c8b0 : ((bt a0 x5_1) == 45) = true := beq_iff_eq.mpr c8
                have c8b1 : ((bt a0 x5_1) != 45) = false := bne_eq_false_iff_eq.mpr c8
                clear c8
                have H' := Aside0.mk H
                clear H
                have p5 : 0 ≤ (x5_1 : Int) := of_decide_eq_true (by first | (with_reducible assumption) | assumption)
                have q5 : x5_1 < (a0.size : Int) := of_decide_eq_true (by first | (with_reducible assumption) | assumption)
                have hx5 := bt_at a0 x5_1
                replace p5 := eq_true p5
                replace q5 := eq_true q5
                have p7 : 0 ≤ (x5_1 : Int) := of_decide_eq_true (by first | (with_reducible assumption) | assumption)
                have q7 : x5_1 < (a0.size : Int) := of_decide_eq_true (by first | (with_reducible assumption) | assumption)
                have hx7 := bt_at a0 x5_1
                replace p7 := eq_true p7
                replace q7 := eq_true q7
                go_wp2
                go_roundg k1
                case measure => have := HK1.out; omega
                case rel => exact ⟨(x5_1), (wrap64 (x5_1 + 1)), (by first | rfl | (simp; done) | (simp [*]; done)), (by first | rfl | (simp; done) | (simp [*]; done)), H', ⟨by have := HK1.out; omega⟩, ⟨by repeat (first | (with_reducible first | exact HB.out | apply below_alloc | apply pw_below_drewN | apply below_drew1) | exact HB.out)⟩⟩
              · rw [if_neg c8] at H
                have c8b0 : ((bt a0 x5_1) == 45) = false := beq_eq_false_iff_ne.mpr c8
                have c8b1 : ((bt a0 x5_1) != 45) = true := bne_iff_ne.mpr c8
                have H' := Aside0.mk H
                clear H
                have p5 : 0 ≤ (x5_1 : Int) := of_decide_eq_true (by first | (with_reducible assumption) | assumption)
                have q5 : x5_1 < (a0.size : Int) := of_decide_eq_true (by first | (with_reducible assumption) | assumption)
                have hx5 := bt_at a0 x5_1
                replace p5 := eq_true p5
                replace q5 := eq_true q5
                have p7 : 0 ≤ (x5_1 : Int) := of_decide_eq_true (by first | (with_reducible assumption) | assumption)
                have q7 : x5_1 < (a0.size : Int) := of_decide_eq_true (by first | (with_reducible assumption) | assumption)
                have hx7 := bt_at a0 x5_1
                replace p7 := eq_true p7
                replace q7 := eq_true q7
                go_wp2
                go_roundg k1
                case measure => have := HK1.out; omega
                case rel => exact ⟨(x4_1), (wrap64 (x5_1 + 1)), (by first | rfl | (simp; done) | (simp [*]; done)), (by first | rfl | (simp; done) | (simp [*]; done)), H', ⟨by have := HK1.out; omega⟩, ⟨by repeat (first | (with_reducible first | exact HB.out | apply below_alloc | apply pw_below_drewN | apply below_drew1) | exact HB.out)⟩⟩
          · rw [if_neg c4] at H
            exact absurd H (by simp)
        · rw [if_neg c3] at H
          have c3b0 : decide (x5_1 < (a0.size : Int)) = false := decide_eq_false c3
          clear c3
          have H' := Aside0.mk H
          clear H
          go_wp2
          go_loopg [6, 7] k1 (fun kq v6 v7 w' => ∃ (x6_2 : List Int) (x7_2 : Int), v7 = .int .i64 x7_2 ∧ Aside0 (endonymref11_Decode.l1 kq a0 x4_1 x6_2 x7_2 = some (r1, r2)) ∧ Aside0 (kq ≤ k1) ∧ Aside0 (Kd.R (Kd.int .i32) 21 w' w.heap.size (fun _ => True) v6 x6_2) ∧ Aside0 (Below w.heap.size w w'))
          case atStart => exact ⟨(([] : List Int)), (0), (by first | rfl | (simp; done) | (simp [*]; done)), H', ⟨Nat.le_refl _⟩, ⟨by first | exact Kd.R_nil _ _ _ _ _ | exact Kd.N_nil _ _ _ _ _ | exact Kd.V_nil _ _ _ _ _ | exact Kd.Q_nil _ _ _ _ _ | exact Kd.S_nil _ _ _ _ _⟩, ⟨by repeat (first | (with_reducible first | exact HB.out | apply below_alloc | apply pw_below_drewN | apply below_drew1) | exact HB.out)⟩⟩
          case round =>
            clear H'
            try clear c1
            try clear c2
            try clear c2b0
            try clear c2b1
            try clear p2
            try clear c3
            try clear c3b0
            try clear c4
            try clear c4b0
            try clear p5
            try clear q5
            try clear hx5
            try clear c6
            try clear c6b0
            try clear p6
            try clear p7
            try clear q7
            try clear hx7
            try clear c8
            try clear c8b0
            try clear c8b1
            try clear p2
            try clear p5
            try clear p7
            try clear q5
            try clear q7
            obtain ⟨x6_2, x7_2, rfl, HA, HK2, HO_6, HB⟩ := hrel
            cases gk with
            | zero => exact absurd HA.out (by simp [endonymref11_Decode.l1])
            | succ k2 =>
              have H := HA.out
              clear HA
              simp only [endonymref11_Decode.l1] at H
              by_cases c9 : x7_2 < x4_1
              · rw [if_pos c9] at H
                have c9b0 : decide (x7_2 < x4_1) = true := decide_eq_true c9
                clear c9
                by_cases c10 : 0 ≤ x7_2
                · rw [if_pos c10] at H
                  have c10b0 : decide (0 ≤ x7_2) = true := decide_eq_true c10
                  clear c10
                  by_cases c11 : x7_2 < (a0.size : Int)
                  · rw [if_pos c11] at H
                    have c11b0 : decide (x7_2 < (a0.size : Int)) = true := decide_eq_true c11
                    clear c11
                    by_cases c13 : x6_2.length < 35184372088832
                    · rw [if_pos c13] at H
                      have LMc13 := Aside0.mk c13
                      clear c13
                      obtain ⟨y190, hy190⟩ : ∃ y_ : List Int, y_ = (x6_2 ++ [wrap32 (bt a0 x7_2)]) := ⟨_, rfl⟩
                      replace H : (endonymref11_Decode.l1 k2 a0 x4_1 y190 (wrap64 (x7_2 + 1))) = some (r1, r2) := by first | (rw [hy190]; with_reducible exact H) | (have H2_ := (Option.bind_some _ _).symm.trans H; rw [hy190]; with_reducible exact H2_) | (have H2_ := (Option.bind_some _ _).symm.trans H; with_reducible exact H2_) | with_reducible exact H | (rw [hy190]; exact H) | exact H
                      have Ny190 := Aside0.mk hy190
                      clear hy190
                      have H' := Aside0.mk H
                      clear H
                      have p12 : 0 ≤ (x7_2 : Int) := of_decide_eq_true (by first | (with_reducible assumption) | assumption)
                      have q12 : x7_2 < (a0.size : Int) := of_decide_eq_true (by first | (with_reducible assumption) | assumption)
                      have hx12 := bt_at a0 x7_2
                      replace p12 := eq_true p12
                      replace q12 := eq_true q12
                      go_wp2_with (first | ((with_reducible refine gate_builtin (b := .append) (xs := #[.tmp 40, .tmp 45]) rfl ?_); at_builtin; refine Kd.R_append (Kd.int .i32) (w0 := w) w.heap.size rfl (.tmp 40) (.tmp 45) 22 21 (.int .i32 0) 4 rfl Try.underlying22 info21 rfl (by decide) (by omega) u6 x6_2 (wrap32 (bt a0 x7_2)) [.int .i32 (wrap32 (bt a0 x7_2))] (fun _ => True) (fun _ => False) rfl rfl ?aP (fun _ hk => hk.elim) ?aF ?aO ?aB ?aS ?aL ?_; (case aP => exact rfl); (case aB => exact (by repeat (first | (with_reducible first | exact HB.out | apply below_alloc | apply pw_below_drewN | apply below_drew1) | exact HB.out))); (case aF => exact (fun _ _ => trivial)); (case aO => exact (by (with_reducible repeat (first | apply Kd.R_alloc | apply Kd.R_drewN | apply Kd.R_drew)); exact HO_6.out)); (case aS => exact (below_size (by repeat (first | (with_reducible first | exact HB.out | apply below_alloc | apply pw_below_drewN | apply below_drew1) | exact HB.out)))); (case aL => have := LMc13.out; omega); intro v191 w14 ho hb hg hat; rw [← Ny190.out] at ho; have n0_ := Aside0.mk (hb); have n1_ := Aside0.mk (ho); clear HB; clear HO_6; have HB := n0_; have HO192 := n1_; clear n0_ n1_; clear ho hb hg hat))
                      go_roundg k2
                      case measure => have := HK1.out; have := HK2.out; omega
                      case rel => exact ⟨(y190), (wrap64 (x7_2 + 1)), (by first | rfl | (simp; done) | (simp [*]; done)), H', ⟨by have := HK1.out; have := HK2.out; omega⟩, ⟨by (with_reducible repeat (first | apply Kd.R_alloc | apply Kd.R_drewN | apply Kd.R_drew)); exact HO192.out⟩, ⟨by repeat (first | (with_reducible first | exact HB.out | apply below_alloc | apply pw_below_drewN | apply below_drew1) | exact HB.out)⟩⟩
                    · rw [if_neg c13] at H
                      exact absurd H (by simp)
                  · rw [if_neg c11] at H
                    exact absurd H (by simp)
                · rw [if_neg c10] at H
                  exact absurd H (by simp)
              · rw [if_neg c9] at H
                have c9b0 : decide (x7_2 < x4_1) = false := decide_eq_false c9
                clear c9
                replace H := Option.bind_eq_some_iff.mp H
                obtain ⟨⟨t193, t196, t197, t198, t199⟩, A150, H⟩ := H
                replace H : (if x4_1 > 0 then (endonymref11_Decode.j2 k2 a0 (wrap64 (x4_1 + 1)) t193 t196 t197 t198 t199) else (endonymref11_Decode.j2 k2 a0 0 t193 t196 t197 t198 t199)) = some (r1, r2) := H
                have A15 := Aside0.mk A150
                clear A150
                have HC16 := Aside0.mk H
                clear H
                obtain ⟨Ao17, co17, eo17⟩ := Kd.R_slice HO_6.out
                subst eo17
                go_upto_if 50 with (first | ((with_reducible refine gate_callee (f := 23) rfl ?_); refine goesL_ (some 48) rfl rfl Try.func23 (by kernel_rfl) rfl #[.slice Ao17 x6_2.length co17] rfl (by (try simp only [List.map_toArray, List.map_cons, List.map_nil]); first | done | rfl | (simp only [List.length_drop, List.length_take]; rfl)) ?_; (with_reducible refine (endonymref11_Begin.calls (fun k_ => some k_ = (.slice Ao17 x6_2.length co17 : Value).ownBlock) (.slice Ao17 x6_2.length co17) x6_2 t193 t196 t197 t198 t199 w _ ?side1 ?side2 A15.out).mono ?_); (case side1 => repeat (first | (with_reducible first | exact HB.out | apply below_alloc | apply pw_below_drewN | apply below_drew1) | exact HB.out)); (case side2 => exact Kd.R_tight rfl HO_6.out); rintro e w18 ⟨v194, rfl, ho0, hb, hkp⟩; refine ⟨_, rfl, ?_⟩; have n0_ := Aside0.mk (Kd.R_mono (ok' := fun k_ => True) ho0 (fun k_ hk_ => trivial)); have n1_ := Aside0.mk (hb); clear HB; clear HO_6; have HO195 := n0_; have HB := n1_; clear n0_ n1_; (try clear hb); (try clear hkp); (try clear ho0)) | ((with_reducible refine gate_dst (N := 8) rfl ?_); refine box_event ?hg (N := 8) ?hd (cs := #[.slice none 0 0, .int .i64 0, .int .i64 0, .int .i64 0, .bool false]) (t := 45) ?hr ?_; (case hd => rfl); (case hg => rfl); (case hr => first | (go_simp; done) | (go_simp; rfl)); intro gb200 hg w19 hbox hb; have n0_ := Aside0.mk (Kd.R_below (by (with_reducible repeat (first | apply Kd.R_alloc | apply Kd.R_drewN | apply Kd.R_drew)); exact HO195.out) hb); have n1_ := Aside0.mk (below_step (by repeat (first | (with_reducible first | exact HB.out | apply below_alloc | apply pw_below_drewN | apply below_drew1) | exact HB.out)) hb); have n2_ := Aside0.mk (hbox); have n3_ := Aside0.mk ((by rw [hg]; exact (below_size (by repeat (first | (with_reducible first | exact HB.out | apply below_alloc | apply pw_below_drewN | apply below_drew1) | exact HB.out))) : w.heap.size ≤ gb200)); have n4_ := Aside0.mk ((by rw [hg]; exact (below_size (by repeat (first | (with_reducible first | exact HB.out | apply below_alloc | apply pw_below_drewN | apply below_drew1) | exact HB.out))) : w.heap.size ≤ gb200)); clear HO195; clear HB; have HO195 := n0_; have HB := n1_; have BK200 := n2_; have GW200 := n3_; have GE200 := n4_; clear n0_ n1_ n2_ n3_ n4_; clear hb hbox hg; obtain ⟨Ao20, co20, eo20⟩ := Kd.R_slice HO195.out; subst eo20; have hcz21_0 : w19.cell? ⟨gb200, 0, none⟩ = some (.slice none 0 0) := (blk_cell BK200.out 0).trans rfl; have hcz21_1 : w19.cell? ⟨gb200, 1, none⟩ = some (.int .i64 0) := (blk_cell BK200.out 1).trans rfl; have hcz21_2 : w19.cell? ⟨gb200, 2, none⟩ = some (.int .i64 0) := (blk_cell BK200.out 2).trans rfl; have hcz21_3 : w19.cell? ⟨gb200, 3, none⟩ = some (.int .i64 0) := (blk_cell BK200.out 3).trans rfl; have hcz21_4 : w19.cell? ⟨gb200, 4, none⟩ = some (.bool false) := (blk_cell BK200.out 4).trans rfl; have hfz21_0 := blk_frozen BK200.out 0; have hfz21_1 := blk_frozen BK200.out 1; have hfz21_2 := blk_frozen BK200.out 2; have hfz21_3 := blk_frozen BK200.out 3; have hfz21_4 := blk_frozen BK200.out 4))
                (try simp only [Act.put, List.setIfInBounds_toArray, List.set_cons_zero, List.set_cons_succ])
                go_cut [9] (fun v9 wc => ∃ (kq : Nat) (x9_15 : Int), v9 = .int .i64 x9_15 ∧ Aside0 (endonymref11_Decode.j2 kq a0 x9_15 t193 t196 t197 t198 t199 = some (r1, r2)) ∧ Aside0 (kq ≤ k2) ∧ Aside0 (Kd.R (Kd.int .i32) 21 wc w.heap.size (fun _ => True) (.slice Ao20 t193.length co20) t193) ∧ Aside0 (wc.heap[gb200]? = some (.cells #[(.slice Ao20 t193.length co20), .int .i64 t196, .int .i64 t197, .int .i64 t198, .bool t199] 45 (0, 0))) ∧ Aside0 (Below w.heap.size w wc))
                case first =>
                  have H := HC16.out
                  clear HC16
                  by_cases c22 : x4_1 > 0
                  · rw [if_pos c22] at H
                    have c22b0 : decide (0 < x4_1) = true := decide_eq_true c22
                    clear c22
                    (first | rw [c22b0] | (simp only [i64_w, i32_w]; rw [c22b0]) | skip)
                    have H' := Aside0.mk H
                    clear H
                    go_wp2
                    go_meet
                    case rel => exact ⟨_, (wrap64 (x4_1 + 1)), (by first | rfl | (simp; done) | (simp [*]; done)), H', ⟨by have := HK1.out; have := HK2.out; first | omega | exact Nat.le_refl _⟩, ⟨by (with_reducible repeat (first | apply Kd.R_alloc | apply Kd.R_drewN | apply Kd.R_drew)); exact Kd.R_mono (Kd.R_far (p := ⟨gb200, 4, none⟩) (Kd.R_far (p := ⟨gb200, 3, none⟩) (Kd.R_far (p := ⟨gb200, 2, none⟩) (Kd.R_far (p := ⟨gb200, 1, none⟩) (Kd.R_far (p := ⟨gb200, 0, none⟩) (Kd.R_types HO195.out BK200.out (by decide)) (fun _ hk => hk.2) (.slice Ao20 t193.length co20)) (fun _ hk => hk.2) (.int .i64 t196)) (fun _ hk => hk.2) (.int .i64 t197)) (fun _ hk => hk.2) (.int .i64 t198)) (fun _ hk => hk.2) (.bool t199)) (fun _ hk => trivial)⟩, ⟨by (with_reducible repeat (first | refine blk_drewN ?_ _ | refine blk_drew ?_ | refine blk_alloc ?_ _)); refine blk_put (cs := #[.slice Ao20 t193.length co20, .int .i64 t196, .int .i64 t197, .int .i64 t198, .bool false]) ?_ 4 _ rfl; (with_reducible repeat (first | refine blk_drewN ?_ _ | refine blk_drew ?_ | refine blk_alloc ?_ _)); refine blk_put (cs := #[.slice Ao20 t193.length co20, .int .i64 t196, .int .i64 t197, .int .i64 0, .bool false]) ?_ 3 _ rfl; (with_reducible repeat (first | refine blk_drewN ?_ _ | refine blk_drew ?_ | refine blk_alloc ?_ _)); refine blk_put (cs := #[.slice Ao20 t193.length co20, .int .i64 t196, .int .i64 0, .int .i64 0, .bool false]) ?_ 2 _ rfl; (with_reducible repeat (first | refine blk_drewN ?_ _ | refine blk_drew ?_ | refine blk_alloc ?_ _)); refine blk_put (cs := #[.slice Ao20 t193.length co20, .int .i64 0, .int .i64 0, .int .i64 0, .bool false]) ?_ 1 _ rfl; (with_reducible repeat (first | refine blk_drewN ?_ _ | refine blk_drew ?_ | refine blk_alloc ?_ _)); refine blk_put (cs := #[.slice none 0 0, .int .i64 0, .int .i64 0, .int .i64 0, .bool false]) ?_ 0 _ rfl; (with_reducible repeat (first | refine blk_drewN ?_ _ | refine blk_drew ?_ | refine blk_alloc ?_ _)); exact BK200.out⟩, ⟨by repeat (first | (with_reducible first | exact HB.out | apply below_alloc | apply pw_below_drewN | apply below_drew1 | refine below_set ?_ GE200.out) | exact HB.out)⟩⟩
                  · rw [if_neg c22] at H
                    have c22b0 : decide (0 < x4_1) = false := decide_eq_false c22
                    clear c22
                    (first | rw [c22b0] | (simp only [i64_w, i32_w]; rw [c22b0]) | skip)
                    have H' := Aside0.mk H
                    clear H
                    go_wp2
                    go_meet
                    case rel => exact ⟨_, (0), (by first | rfl | (simp; done) | (simp [*]; done)), H', ⟨by have := HK1.out; have := HK2.out; first | omega | exact Nat.le_refl _⟩, ⟨by (with_reducible repeat (first | apply Kd.R_alloc | apply Kd.R_drewN | apply Kd.R_drew)); exact Kd.R_mono (Kd.R_far (p := ⟨gb200, 4, none⟩) (Kd.R_far (p := ⟨gb200, 3, none⟩) (Kd.R_far (p := ⟨gb200, 2, none⟩) (Kd.R_far (p := ⟨gb200, 1, none⟩) (Kd.R_far (p := ⟨gb200, 0, none⟩) (Kd.R_types HO195.out BK200.out (by decide)) (fun _ hk => hk.2) (.slice Ao20 t193.length co20)) (fun _ hk => hk.2) (.int .i64 t196)) (fun _ hk => hk.2) (.int .i64 t197)) (fun _ hk => hk.2) (.int .i64 t198)) (fun _ hk => hk.2) (.bool t199)) (fun _ hk => trivial)⟩, ⟨by (with_reducible repeat (first | refine blk_drewN ?_ _ | refine blk_drew ?_ | refine blk_alloc ?_ _)); refine blk_put (cs := #[.slice Ao20 t193.length co20, .int .i64 t196, .int .i64 t197, .int .i64 t198, .bool false]) ?_ 4 _ rfl; (with_reducible repeat (first | refine blk_drewN ?_ _ | refine blk_drew ?_ | refine blk_alloc ?_ _)); refine blk_put (cs := #[.slice Ao20 t193.length co20, .int .i64 t196, .int .i64 t197, .int .i64 0, .bool false]) ?_ 3 _ rfl; (with_reducible repeat (first | refine blk_drewN ?_ _ | refine blk_drew ?_ | refine blk_alloc ?_ _)); refine blk_put (cs := #[.slice Ao20 t193.length co20, .int .i64 t196, .int .i64 0, .int .i64 0, .bool false]) ?_ 2 _ rfl; (with_reducible repeat (first | refine blk_drewN ?_ _ | refine blk_drew ?_ | refine blk_alloc ?_ _)); refine blk_put (cs := #[.slice Ao20 t193.length co20, .int .i64 0, .int .i64 0, .int .i64 0, .bool false]) ?_ 1 _ rfl; (with_reducible repeat (first | refine blk_drewN ?_ _ | refine blk_drew ?_ | refine blk_alloc ?_ _)); refine blk_put (cs := #[.slice none 0 0, .int .i64 0, .int .i64 0, .int .i64 0, .bool false]) ?_ 0 _ rfl; (with_reducible repeat (first | refine blk_drewN ?_ _ | refine blk_drew ?_ | refine blk_alloc ?_ _)); exact BK200.out⟩, ⟨by repeat (first | (with_reducible first | exact HB.out | apply below_alloc | apply pw_below_drewN | apply below_drew1 | refine below_set ?_ GE200.out) | exact HB.out)⟩⟩
                case rest =>
                  clear HC16
                  try clear c1
                  try clear p1
                  try clear q1
                  try clear hx1
                  try clear c2
                  try clear c2b0
                  try clear c2b1
                  try clear p2
                  try clear c3
                  try clear c3b0
                  try clear p3
                  try clear c4
                  try clear c4b0
                  try clear p5
                  try clear q5
                  try clear hx5
                  try clear c6
                  try clear c6b0
                  try clear p6
                  try clear p7
                  try clear q7
                  try clear hx7
                  try clear c8
                  try clear c8b0
                  try clear c8b1
                  try clear c9
                  try clear c9b0
                  try clear c10
                  try clear c10b0
                  try clear c11
                  try clear c11b0
                  try clear p12
                  try clear q12
                  try clear hx12
                  try clear c13
                  try clear c16
                  try clear c22
                  try clear c22b0
                  try clear hcz21_0
                  try clear hcz21_1
                  try clear hcz21_2
                  try clear hcz21_3
                  try clear hcz21_4
                  try clear hfz21_0
                  try clear hfz21_1
                  try clear hfz21_2
                  try clear hfz21_3
                  try clear hfz21_4
                  try clear p12
                  try clear p2
                  try clear p5
                  try clear p6
                  try clear p7
                  try clear q12
                  try clear q5
                  try clear q7
                  obtain ⟨kq, x9_15, rfl, HA, HJ15, HO_201000, BK200, HB⟩ := hcut
                  cases kq with
                  | zero => exact absurd HA.out (by simp [endonymref11_Decode.j2])
                  | succ kj15 =>
                    have H := HA.out
                    clear HA
                    simp only [endonymref11_Decode.j2] at H
                    have H' := Aside0.mk H
                    clear H
                    go_wp2
                    go_loopg [9] kj15 (fun kq v9 w' => ∃ (x9_4 : Int) (x201000_4 : List Int) (x201001_4 : Int) (x201002_4 : Int) (x201003_4 : Int) (x201004_4 : Bool) (u201000 : Value), v9 = .int .i64 x9_4 ∧ Aside0 (endonymref11_Decode.l2 kq a0 x9_4 x201000_4 x201001_4 x201002_4 x201003_4 x201004_4 = some (r1, r2)) ∧ Aside0 (kq ≤ kj15) ∧ Aside0 (Kd.R (Kd.int .i32) 21 w' w.heap.size (fun _ => True) u201000 x201000_4) ∧ Aside0 (w'.heap[gb200]? = some (.cells #[u201000, .int .i64 x201001_4, .int .i64 x201002_4, .int .i64 x201003_4, .bool x201004_4] 45 (0, 0))) ∧ Aside0 (Below w.heap.size w w'))
                    case atStart => exact ⟨(x9_15), (t193), (t196), (t197), (t198), (t199), (.slice Ao20 t193.length co20), (by first | rfl | (simp; done) | (simp [*]; done)), H', ⟨Nat.le_refl _⟩, ⟨by (with_reducible repeat (first | apply Kd.R_alloc | apply Kd.R_drewN | apply Kd.R_drew)); exact HO_201000.out⟩, ⟨by (with_reducible repeat (first | refine blk_drewN ?_ _ | refine blk_drew ?_ | refine blk_alloc ?_ _)); exact BK200.out⟩, ⟨by repeat (first | (with_reducible first | exact HB.out | apply below_alloc | apply pw_below_drewN | apply below_drew1 | refine below_set ?_ GE200.out) | exact HB.out)⟩⟩
                    case round =>
                      clear H'
                      try clear c1
                      try clear p1
                      try clear q1
                      try clear hx1
                      try clear c2
                      try clear c2b0
                      try clear c2b1
                      try clear p2
                      try clear c3
                      try clear c3b0
                      try clear p3
                      try clear c4
                      try clear c4b0
                      try clear p5
                      try clear q5
                      try clear hx5
                      try clear c6
                      try clear c6b0
                      try clear p6
                      try clear p7
                      try clear q7
                      try clear hx7
                      try clear c8
                      try clear c8b0
                      try clear c8b1
                      try clear c9
                      try clear c9b0
                      try clear c10
                      try clear c10b0
                      try clear c11
                      try clear c11b0
                      try clear p12
                      try clear q12
                      try clear hx12
                      try clear c13
                      try clear c16
                      try clear c22
                      try clear c22b0
                      try clear hcz21_0
                      try clear hcz21_1
                      try clear hcz21_2
                      try clear hcz21_3
                      try clear hcz21_4
                      try clear hfz21_0
                      try clear hfz21_1
                      try clear hfz21_2
                      try clear hfz21_3
                      try clear hfz21_4
                      try clear p1
                      try clear p12
                      try clear p2
                      try clear p3
                      try clear p5
                      try clear p6
                      try clear p7
                      try clear q1
                      try clear q12
                      try clear q5
                      try clear q7
                      obtain ⟨x9_4, x201000_4, x201001_4, x201002_4, x201003_4, x201004_4, u201000, rfl, HA, HK4, HO_201000, BK200, HB⟩ := hrel
                      cases gk with
                      | zero => exact absurd HA.out (by simp [endonymref11_Decode.l2])
                      | succ k4 =>
                        have H := HA.out
                        clear HA
                        simp only [endonymref11_Decode.l2] at H
                        by_cases c23 : x9_4 < (a0.size : Int)
                        · rw [if_pos c23] at H
                          have c23b0 : decide (x9_4 < (a0.size : Int)) = true := decide_eq_true c23
                          clear c23
                          have HC24 := Aside0.mk H
                          clear H
                          go_upto_block 6 with (fail)
                          go_cut [9, 10] (fun v9 v10 wc => ∃ (kq : Nat) (x9_23 : Int) (x10_23 : Int), v9 = .int .i64 x9_23 ∧ v10 = .int .i64 x10_23 ∧ Aside0 (endonymref11_Decode.j7 kq a0 x9_23 x10_23 x201000_4 x201001_4 x201002_4 x201003_4 x201004_4 = some (r1, r2)) ∧ Aside0 (kq ≤ k4) ∧ Aside0 (Kd.R (Kd.int .i32) 21 wc w.heap.size (fun _ => True) u201000 x201000_4) ∧ Aside0 (wc.heap[gb200]? = some (.cells #[u201000, .int .i64 x201001_4, .int .i64 x201002_4, .int .i64 x201003_4, .bool x201004_4] 45 (0, 0))) ∧ Aside0 (Below w.heap.size w wc))
                          case first =>
                            have H := HC24.out
                            clear HC24
                            have H' := Aside0.mk H
                            clear H
                            go_wp2
                            go_loopg [9, 10, 11, 12, 13] k4 (fun kq v9 v10 v11 v12 v13 w' => ∃ (x9_5 : Int) (x10_5 : Int) (x11_5 : Int) (x12_5 : Bool) (x13_5 : Int), v9 = .int .i64 x9_5 ∧ v10 = .int .i64 x10_5 ∧ v11 = .int .i64 x11_5 ∧ v12 = .bool x12_5 ∧ v13 = .int .i64 x13_5 ∧ Aside0 (endonymref11_Decode.l3 kq a0 x9_5 x10_5 x11_5 x12_5 x13_5 x201000_4 x201001_4 x201002_4 x201003_4 x201004_4 = some (r1, r2)) ∧ Aside0 (kq ≤ k4) ∧ Aside0 (Kd.R (Kd.int .i32) 21 w' w.heap.size (fun _ => True) u201000 x201000_4) ∧ Aside0 (w'.heap[gb200]? = some (.cells #[u201000, .int .i64 x201001_4, .int .i64 x201002_4, .int .i64 x201003_4, .bool x201004_4] 45 (0, 0))) ∧ Aside0 (Below w.heap.size w w'))
                            case atStart => exact ⟨(x9_4), (0), (1), (false), (1), (by first | rfl | (simp; done) | (simp [*]; done)), (by first | rfl | (simp; done) | (simp [*]; done)), (by first | rfl | (simp; done) | (simp [*]; done)), (by first | rfl | (simp; done) | (simp [*]; done)), (by first | rfl | (simp; done) | (simp [*]; done)), H', ⟨Nat.le_refl _⟩, ⟨by (with_reducible repeat (first | apply Kd.R_alloc | apply Kd.R_drewN | apply Kd.R_drew)); exact HO_201000.out⟩, ⟨by (with_reducible repeat (first | refine blk_drewN ?_ _ | refine blk_drew ?_ | refine blk_alloc ?_ _)); exact BK200.out⟩, ⟨by repeat (first | (with_reducible first | exact HB.out | apply below_alloc | apply pw_below_drewN | apply below_drew1 | refine below_set ?_ GE200.out) | exact HB.out)⟩⟩
                            case round =>
                              clear H'
                              try clear c1
                              try clear p1
                              try clear q1
                              try clear hx1
                              try clear c2
                              try clear c2b0
                              try clear c2b1
                              try clear p2
                              try clear c3
                              try clear c3b0
                              try clear p3
                              try clear c4
                              try clear c4b0
                              try clear p5
                              try clear q5
                              try clear hx5
                              try clear c6
                              try clear c6b0
                              try clear p6
                              try clear p7
                              try clear q7
                              try clear hx7
                              try clear c8
                              try clear c8b0
                              try clear c8b1
                              try clear c9
                              try clear c9b0
                              try clear c10
                              try clear c10b0
                              try clear c11
                              try clear c11b0
                              try clear p12
                              try clear q12
                              try clear hx12
                              try clear c13
                              try clear c16
                              try clear c22
                              try clear c22b0
                              try clear c23
                              try clear c23b0
                              try clear hcz21_0
                              try clear hcz21_1
                              try clear hcz21_2
                              try clear hcz21_3
                              try clear hcz21_4
                              try clear hfz21_0
                              try clear hfz21_1
                              try clear hfz21_2
                              try clear hfz21_3
                              try clear hfz21_4
                              try clear p1
                              try clear p12
                              try clear p2
                              try clear p3
                              try clear p5
                              try clear p6
                              try clear p7
                              try clear q1
                              try clear q12
                              try clear q5
                              try clear q7
                              obtain ⟨x9_5, x10_5, x11_5, x12_5, x13_5, rfl, rfl, rfl, rfl, rfl, HA, HK5, HO_201000, BK200, HB⟩ := hrel
                              cases gk with
                              | zero => exact absurd HA.out (by simp [endonymref11_Decode.l3])
                              | succ k5 =>
                                have H := HA.out
                                clear HA
                                simp only [endonymref11_Decode.l3] at H
                                by_cases c25 : x9_5 = (a0.size : Int)
                                · rw [if_pos c25] at H
                                  have c25b0 : (x9_5 == (a0.size : Int)) = true := beq_iff_eq.mpr c25
                                  have c25b1 : (x9_5 != (a0.size : Int)) = false := bne_eq_false_iff_eq.mpr c25
                                  clear c25
                                  (first | rw [c25b0] | (simp only [i64_w, i32_w]; rw [c25b0]) | skip)
                                  simp only [Option.some.injEq, Prod.mk.injEq] at H
                                  obtain ⟨rfl, rfl⟩ := H
                                  go_wp2
                                  go_ret2
                                  exact ⟨_, by first | rfl | (simp [errW_none, errW_some] <;> rfl) | (simp [*, errW_none, errW_some] <;> rfl), by first | exact Kd.R_nil _ _ _ _ _ | exact Kd.N_nil _ _ _ _ _ | exact Kd.V_nil _ _ _ _ _ | exact Kd.Q_nil _ _ _ _ _ | exact Kd.S_nil _ _ _ _ _, by repeat (first | (with_reducible first | exact HB.out | apply below_alloc | apply pw_below_drewN | apply below_drew1 | refine below_set ?_ GE200.out) | exact HB.out)⟩
                                · rw [if_neg c25] at H
                                  have c25b0 : (x9_5 == (a0.size : Int)) = false := beq_eq_false_iff_ne.mpr c25
                                  have c25b1 : (x9_5 != (a0.size : Int)) = true := bne_iff_ne.mpr c25
                                  (first | rw [c25b0] | (simp only [i64_w, i32_w]; rw [c25b0]) | skip)
                                  by_cases c26 : 0 ≤ x9_5
                                  · rw [if_pos c26] at H
                                    have c26b0 : decide (0 ≤ x9_5) = true := decide_eq_true c26
                                    clear c26
                                    by_cases c27 : x9_5 < (a0.size : Int)
                                    · rw [if_pos c27] at H
                                      have c27b0 : decide (x9_5 < (a0.size : Int)) = true := decide_eq_true c27
                                      clear c27
                                      replace H := Option.bind_eq_some_iff.mp H
                                      obtain ⟨t201, A290, H⟩ := H
                                      replace H : (if t201 < 0 then (some (([] : List Int), 110)) else (if x12_5 = true then (endonymref11_Decode.j5 k5 a0 (wrap64 (x9_5 + 1)) x10_5 x11_5 x12_5 x13_5 t201 (decide (t201 > 0)) x201000_4 x201001_4 x201002_4 x201003_4 x201004_4) else (endonymref11_Decode.j5 k5 a0 (wrap64 (x9_5 + 1)) x10_5 x11_5 x12_5 x13_5 t201 false x201000_4 x201001_4 x201002_4 x201003_4 x201004_4))) = some (r1, r2) := H
                                      have A29 := Aside0.mk A290
                                      clear A290
                                      by_cases c30 : t201 < 0
                                      · rw [if_pos c30] at H
                                        have c30b0 : decide (t201 < 0) = true := decide_eq_true c30
                                        clear c30
                                        simp only [Option.some.injEq, Prod.mk.injEq] at H
                                        obtain ⟨rfl, rfl⟩ := H
                                        have p28 : 0 ≤ (x9_5 : Int) := of_decide_eq_true (by first | (with_reducible assumption) | assumption)
                                        have q28 : x9_5 < (a0.size : Int) := of_decide_eq_true (by first | (with_reducible assumption) | assumption)
                                        have hx28 := bt_at a0 x9_5
                                        replace p28 := eq_true p28
                                        replace q28 := eq_true q28
                                        go_wp2_with (first | ((with_reducible refine gate_callee (f := 36) rfl ?_); refine goesL_ (some 66) rfl rfl Try.func36 (by kernel_rfl) rfl #[.int .u8 (bt a0 x9_5)] rfl (by (try simp only [List.map_toArray, List.map_cons, List.map_nil]); first | done | rfl | (simp only [List.length_drop, List.length_take]; rfl)) ?_; (with_reducible refine (endonymref11_worth.calls k5 (bt a0 x9_5) t201 _ A29.out).mono ?_); rintro e w' ⟨rfl, ⟨nd, rfl⟩⟩; refine ⟨_, rfl, ?_⟩))
                                        go_ret2
                                        exact ⟨_, by first | rfl | (simp [errW_none, errW_some] <;> rfl) | (simp [*, errW_none, errW_some] <;> rfl), by first | exact Kd.R_nil _ _ _ _ _ | exact Kd.N_nil _ _ _ _ _ | exact Kd.V_nil _ _ _ _ _ | exact Kd.Q_nil _ _ _ _ _ | exact Kd.S_nil _ _ _ _ _, by repeat (first | (with_reducible first | exact HB.out | apply below_alloc | apply pw_below_drewN | apply below_drew1 | refine below_set ?_ GE200.out) | exact HB.out)⟩
                                      · rw [if_neg c30] at H
                                        have c30b0 : decide (t201 < 0) = false := decide_eq_false c30
                                        clear c30
                                        have HC31 := Aside0.mk H
                                        clear H
                                        have p28 : 0 ≤ (x9_5 : Int) := of_decide_eq_true (by first | (with_reducible assumption) | assumption)
                                        have q28 : x9_5 < (a0.size : Int) := of_decide_eq_true (by first | (with_reducible assumption) | assumption)
                                        have hx28 := bt_at a0 x9_5
                                        replace p28 := eq_true p28
                                        replace q28 := eq_true q28
                                        go_upto_region 31 with (first | ((with_reducible refine gate_callee (f := 36) rfl ?_); refine goesL_ (some 66) rfl rfl Try.func36 (by kernel_rfl) rfl #[.int .u8 (bt a0 x9_5)] rfl (by (try simp only [List.map_toArray, List.map_cons, List.map_nil]); first | done | rfl | (simp only [List.length_drop, List.length_take]; rfl)) ?_; (with_reducible refine (endonymref11_worth.calls k5 (bt a0 x9_5) t201 _ A29.out).mono ?_); rintro e w' ⟨rfl, ⟨nd, rfl⟩⟩; refine ⟨_, rfl, ?_⟩))
                                        (try simp only [Act.put, List.setIfInBounds_toArray, List.set_cons_zero, List.set_cons_succ])
                                        go_cut [75] (fun v75 wc => ∃ (kq : Nat) (x75_30 : Bool), v75 = .bool x75_30 ∧ Aside0 (endonymref11_Decode.j5 kq a0 (wrap64 (x9_5 + 1)) x10_5 x11_5 x12_5 x13_5 t201 x75_30 x201000_4 x201001_4 x201002_4 x201003_4 x201004_4 = some (r1, r2)) ∧ Aside0 (kq ≤ k5) ∧ Aside0 (Kd.R (Kd.int .i32) 21 wc w.heap.size (fun _ => True) u201000 x201000_4) ∧ Aside0 (wc.heap[gb200]? = some (.cells #[u201000, .int .i64 x201001_4, .int .i64 x201002_4, .int .i64 x201003_4, .bool x201004_4] 45 (0, 0))) ∧ Aside0 (Below w.heap.size w wc))
                                        case first =>
                                          have H := HC31.out
                                          clear HC31
                                          by_cases c32 : x12_5 = true
                                          · subst c32
                                            have H1 : (endonymref11_Decode.j5 k5 a0 (wrap64 (x9_5 + 1)) x10_5 x11_5 true x13_5 t201 (decide (t201 > 0)) x201000_4 x201001_4 x201002_4 x201003_4 x201004_4) = some (r1, r2) := by rw [if_pos rfl] at H; exact H
                                            clear H
                                            have H := H1
                                            clear H1
                                            have H' := Aside0.mk H
                                            clear H
                                            go_wp2
                                            go_meet
                                            case rel => exact ⟨_, (decide (t201 > 0)), (by first | rfl | (simp; done) | (simp [*]; done)), H', ⟨by have := HK1.out; have := HK2.out; have := HJ15.out; have := HK4.out; have := HK5.out; first | omega | exact Nat.le_refl _⟩, ⟨by (with_reducible repeat (first | apply Kd.R_alloc | apply Kd.R_drewN | apply Kd.R_drew)); exact HO_201000.out⟩, ⟨by (with_reducible repeat (first | refine blk_drewN ?_ _ | refine blk_drew ?_ | refine blk_alloc ?_ _)); exact BK200.out⟩, ⟨by repeat (first | (with_reducible first | exact HB.out | apply below_alloc | apply pw_below_drewN | apply below_drew1 | refine below_set ?_ GE200.out) | exact HB.out)⟩⟩
                                          · replace c32 := Bool.eq_false_iff.mpr c32
                                            subst c32
                                            have H1 : (endonymref11_Decode.j5 k5 a0 (wrap64 (x9_5 + 1)) x10_5 x11_5 false x13_5 t201 false x201000_4 x201001_4 x201002_4 x201003_4 x201004_4) = some (r1, r2) := by rw [if_neg (show ¬ (false = true) by decide)] at H; exact H
                                            clear H
                                            have H := H1
                                            clear H1
                                            have H' := Aside0.mk H
                                            clear H
                                            go_wp2
                                            go_meet
                                            case rel => exact ⟨_, (false), (by first | rfl | (simp; done) | (simp [*]; done)), H', ⟨by have := HK1.out; have := HK2.out; have := HJ15.out; have := HK4.out; have := HK5.out; first | omega | exact Nat.le_refl _⟩, ⟨by (with_reducible repeat (first | apply Kd.R_alloc | apply Kd.R_drewN | apply Kd.R_drew)); exact HO_201000.out⟩, ⟨by (with_reducible repeat (first | refine blk_drewN ?_ _ | refine blk_drew ?_ | refine blk_alloc ?_ _)); exact BK200.out⟩, ⟨by repeat (first | (with_reducible first | exact HB.out | apply below_alloc | apply pw_below_drewN | apply below_drew1 | refine below_set ?_ GE200.out) | exact HB.out)⟩⟩
                                        case rest =>
                                          clear HC31
                                          try clear c1
                                          try clear p1
                                          try clear q1
                                          try clear hx1
                                          try clear c2
                                          try clear c2b0
                                          try clear c2b1
                                          try clear p2
                                          try clear q2
                                          try clear hx2
                                          try clear c3
                                          try clear c3b0
                                          try clear p3
                                          try clear c4
                                          try clear c4b0
                                          try clear p5
                                          try clear q5
                                          try clear hx5
                                          try clear c6
                                          try clear c6b0
                                          try clear p6
                                          try clear p7
                                          try clear q7
                                          try clear hx7
                                          try clear c8
                                          try clear c8b0
                                          try clear c8b1
                                          try clear c9
                                          try clear c9b0
                                          try clear c10
                                          try clear c10b0
                                          try clear c11
                                          try clear c11b0
                                          try clear p12
                                          try clear q12
                                          try clear hx12
                                          try clear c13
                                          try clear c16
                                          try clear c22
                                          try clear c22b0
                                          try clear c23
                                          try clear c23b0
                                          try clear c25
                                          try clear c25b0
                                          try clear c25b1
                                          try clear c26
                                          try clear c26b0
                                          try clear c27
                                          try clear c27b0
                                          try clear p28
                                          try clear q28
                                          try clear hx28
                                          try clear c30
                                          try clear c30b0
                                          try clear c32
                                          try clear p32
                                          try clear hcz21_0
                                          try clear hcz21_1
                                          try clear hcz21_2
                                          try clear hcz21_3
                                          try clear hcz21_4
                                          try clear hfz21_0
                                          try clear hfz21_1
                                          try clear hfz21_2
                                          try clear hfz21_3
                                          try clear hfz21_4
                                          try clear p1
                                          try clear p12
                                          try clear p2
                                          try clear p28
                                          try clear p3
                                          try clear p5
                                          try clear p6
                                          try clear p7
                                          try clear q1
                                          try clear q12
                                          try clear q28
                                          try clear q5
                                          try clear q7
                                          obtain ⟨kq, x75_30, rfl, HA, HJ30, HO_201000, BK200, HB⟩ := hcut
                                          cases kq with
                                          | zero => exact absurd HA.out (by simp [endonymref11_Decode.j5])
                                          | succ kj30 =>
                                            have H := HA.out
                                            clear HA
                                            simp only [endonymref11_Decode.j5] at H
                                            have HC33 := Aside0.mk H
                                            clear H
                                            go_upto_if 75 with (fail)
                                            go_cut [10] (fun v10 wc => ∃ (kq : Nat) (x10_32 : Int), v10 = .int .i64 x10_32 ∧ Aside0 (endonymref11_Decode.j6 kq a0 (wrap64 (x9_5 + 1)) x10_32 x11_5 x12_5 x13_5 t201 x201000_4 x201001_4 x201002_4 x201003_4 x201004_4 = some (r1, r2)) ∧ Aside0 (kq ≤ kj30) ∧ Aside0 (Kd.R (Kd.int .i32) 21 wc w.heap.size (fun _ => True) u201000 x201000_4) ∧ Aside0 (wc.heap[gb200]? = some (.cells #[u201000, .int .i64 x201001_4, .int .i64 x201002_4, .int .i64 x201003_4, .bool x201004_4] 45 (0, 0))) ∧ Aside0 (Below w.heap.size w wc))
                                            case first =>
                                              have H := HC33.out
                                              clear HC33
                                              by_cases c34 : x75_30 = true
                                              · subst c34
                                                have H1 : (endonymref11_Decode.j6 kj30 a0 (wrap64 (x9_5 + 1)) 2147483648 x11_5 x12_5 x13_5 t201 x201000_4 x201001_4 x201002_4 x201003_4 x201004_4) = some (r1, r2) := by rw [if_pos rfl] at H; exact H
                                                clear H
                                                have H := H1
                                                clear H1
                                                have H' := Aside0.mk H
                                                clear H
                                                go_wp2
                                                go_meet
                                                case rel => exact ⟨_, (2147483648), (by first | rfl | (simp; done) | (simp [*]; done)), H', ⟨by have := HK1.out; have := HK2.out; have := HJ15.out; have := HK4.out; have := HK5.out; have := HJ30.out; first | omega | exact Nat.le_refl _⟩, ⟨by (with_reducible repeat (first | apply Kd.R_alloc | apply Kd.R_drewN | apply Kd.R_drew)); exact HO_201000.out⟩, ⟨by (with_reducible repeat (first | refine blk_drewN ?_ _ | refine blk_drew ?_ | refine blk_alloc ?_ _)); exact BK200.out⟩, ⟨by repeat (first | (with_reducible first | exact HB.out | apply below_alloc | apply pw_below_drewN | apply below_drew1 | refine below_set ?_ GE200.out) | exact HB.out)⟩⟩
                                              · replace c34 := Bool.eq_false_iff.mpr c34
                                                subst c34
                                                have H1 : (endonymref11_Decode.j6 kj30 a0 (wrap64 (x9_5 + 1)) x10_5 x11_5 x12_5 x13_5 t201 x201000_4 x201001_4 x201002_4 x201003_4 x201004_4) = some (r1, r2) := by rw [if_neg (show ¬ (false = true) by decide)] at H; exact H
                                                clear H
                                                have H := H1
                                                clear H1
                                                have H' := Aside0.mk H
                                                clear H
                                                go_wp2
                                                go_meet
                                                case rel => exact ⟨_, (x10_5), (by first | rfl | (simp; done) | (simp [*]; done)), H', ⟨by have := HK1.out; have := HK2.out; have := HJ15.out; have := HK4.out; have := HK5.out; have := HJ30.out; first | omega | exact Nat.le_refl _⟩, ⟨by (with_reducible repeat (first | apply Kd.R_alloc | apply Kd.R_drewN | apply Kd.R_drew)); exact HO_201000.out⟩, ⟨by (with_reducible repeat (first | refine blk_drewN ?_ _ | refine blk_drew ?_ | refine blk_alloc ?_ _)); exact BK200.out⟩, ⟨by repeat (first | (with_reducible first | exact HB.out | apply below_alloc | apply pw_below_drewN | apply below_drew1 | refine below_set ?_ GE200.out) | exact HB.out)⟩⟩
                                            case rest =>
                                              clear HC33
                                              try clear c1
                                              try clear p1
                                              try clear q1
                                              try clear hx1
                                              try clear c2
                                              try clear c2b0
                                              try clear c2b1
                                              try clear p2
                                              try clear q2
                                              try clear hx2
                                              try clear c3
                                              try clear c3b0
                                              try clear p3
                                              try clear c4
                                              try clear c4b0
                                              try clear p5
                                              try clear q5
                                              try clear hx5
                                              try clear c6
                                              try clear c6b0
                                              try clear p6
                                              try clear p7
                                              try clear q7
                                              try clear hx7
                                              try clear c8
                                              try clear c8b0
                                              try clear c8b1
                                              try clear c9
                                              try clear c9b0
                                              try clear c10
                                              try clear c10b0
                                              try clear c11
                                              try clear c11b0
                                              try clear p12
                                              try clear q12
                                              try clear hx12
                                              try clear c13
                                              try clear c16
                                              try clear c22
                                              try clear c22b0
                                              try clear c23
                                              try clear c23b0
                                              try clear c25
                                              try clear c25b0
                                              try clear c25b1
                                              try clear c26
                                              try clear c26b0
                                              try clear c27
                                              try clear c27b0
                                              try clear p28
                                              try clear q28
                                              try clear hx28
                                              try clear c30
                                              try clear c30b0
                                              try clear c32
                                              try clear p32
                                              try clear c34
                                              try clear hcz21_0
                                              try clear hcz21_1
                                              try clear hcz21_2
                                              try clear hcz21_3
                                              try clear hcz21_4
                                              try clear hfz21_0
                                              try clear hfz21_1
                                              try clear hfz21_2
                                              try clear hfz21_3
                                              try clear hfz21_4
                                              try clear p1
                                              try clear p12
                                              try clear p2
                                              try clear p28
                                              try clear p3
                                              try clear p32
                                              try clear p5
                                              try clear p6
                                              try clear p7
                                              try clear q1
                                              try clear q12
                                              try clear q2
                                              try clear q28
                                              try clear q5
                                              try clear q7
                                              obtain ⟨kq, x10_32, rfl, HA, HJ32, HO_201000, BK200, HB⟩ := hcut
                                              cases kq with
                                              | zero => exact absurd HA.out (by simp [endonymref11_Decode.j6])
                                              | succ kj32 =>
                                                have H := HA.out
                                                clear HA
                                                simp only [endonymref11_Decode.j6] at H
                                                by_cases c35 : x12_5 = true
                                                · subst c35
                                                  have H1 : ((endonymref11_Threshold.f x13_5 x201003_4).bind fun t202 => (if t201 < t202 then (endonymref11_Decode.j7 kj32 a0 (wrap64 (x9_5 + 1)) x10_32 x201000_4 x201001_4 x201002_4 x201003_4 x201004_4) else (endonymref11_Decode.l3 kj32 a0 (wrap64 (x9_5 + 1)) x10_32 (wrap64 (x11_5 * (wrap64 (36 - t202)))) true (wrap64 (x13_5 + 1)) x201000_4 x201001_4 x201002_4 x201003_4 x201004_4))) = some (r1, r2) := by rw [if_pos rfl] at H; exact H
                                                  clear H
                                                  have H := H1
                                                  clear H1
                                                  replace H := Option.bind_eq_some_iff.mp H
                                                  obtain ⟨t202, A360, H⟩ := H
                                                  replace H : (if t201 < t202 then (endonymref11_Decode.j7 kj32 a0 (wrap64 (x9_5 + 1)) x10_32 x201000_4 x201001_4 x201002_4 x201003_4 x201004_4) else (endonymref11_Decode.l3 kj32 a0 (wrap64 (x9_5 + 1)) x10_32 (wrap64 (x11_5 * (wrap64 (36 - t202)))) true (wrap64 (x13_5 + 1)) x201000_4 x201001_4 x201002_4 x201003_4 x201004_4)) = some (r1, r2) := H
                                                  have A36 := Aside0.mk A360
                                                  clear A360
                                                  by_cases c37 : t201 < t202
                                                  · rw [if_pos c37] at H
                                                    have c37b0 : decide (t201 < t202) = true := decide_eq_true c37
                                                    clear c37
                                                    have H' := Aside0.mk H
                                                    clear H
                                                    have hcz38_0 : wc.cell? ⟨gb200, 0, none⟩ = some (u201000) := (blk_cell BK200.out 0).trans rfl
                                                    have hcz38_1 : wc.cell? ⟨gb200, 1, none⟩ = some (.int .i64 x201001_4) := (blk_cell BK200.out 1).trans rfl
                                                    have hcz38_2 : wc.cell? ⟨gb200, 2, none⟩ = some (.int .i64 x201002_4) := (blk_cell BK200.out 2).trans rfl
                                                    have hcz38_3 : wc.cell? ⟨gb200, 3, none⟩ = some (.int .i64 x201003_4) := (blk_cell BK200.out 3).trans rfl
                                                    have hcz38_4 : wc.cell? ⟨gb200, 4, none⟩ = some (.bool x201004_4) := (blk_cell BK200.out 4).trans rfl
                                                    have hfz38_0 := blk_frozen BK200.out 0
                                                    have hfz38_1 := blk_frozen BK200.out 1
                                                    have hfz38_2 := blk_frozen BK200.out 2
                                                    have hfz38_3 := blk_frozen BK200.out 3
                                                    have hfz38_4 := blk_frozen BK200.out 4
                                                    go_wp2_with (first | ((with_reducible refine gate_callee (f := 37) rfl ?_); refine goesL_ (some 87) rfl rfl Try.func37 (by kernel_rfl) rfl #[.int .i64 x13_5, .int .i64 x201003_4] rfl (by (try simp only [List.map_toArray, List.map_cons, List.map_nil]); first | done | rfl | (simp only [List.length_drop, List.length_take]; rfl)) ?_; (with_reducible refine (endonymref11_Threshold.calls x13_5 x201003_4 t202 _ A36.out).mono ?_); rintro e w39 ⟨rfl, hb⟩; refine ⟨_, rfl, ?_⟩; have n0_ := Aside0.mk (Kd.R_below (by (with_reducible repeat (first | apply Kd.R_alloc | apply Kd.R_drewN | apply Kd.R_drew)); exact HO_201000.out) hb); have n1_ := Aside0.mk (blk_below (g := gb200) (o := .cells #[u201000, .int .i64 x201001_4, .int .i64 x201002_4, .int .i64 x201003_4, .bool x201004_4] 45 (0, 0)) (by (with_reducible repeat (first | refine blk_drewN ?_ _ | refine blk_drew ?_ | refine blk_alloc ?_ _)); exact BK200.out) hb); have n2_ := Aside0.mk (below_step (by repeat (first | (with_reducible first | exact HB.out | apply below_alloc | apply pw_below_drewN | apply below_drew1 | refine below_set ?_ GE200.out) | exact HB.out)) hb); clear HO_201000; clear BK200; clear HB; have HO_201000 := n0_; have BK200 := n1_; have HB := n2_; clear n0_ n1_ n2_; (try clear hb); (try clear hb2); (try clear hk); (try clear hi)))
                                                    go_meet
                                                    case rel => exact ⟨_, ((wrap64 (x9_5 + 1))), (x10_32), (by first | rfl | (simp; done) | (simp [*]; done)), (by first | rfl | (simp; done) | (simp [*]; done)), H', ⟨by have := HK1.out; have := HK2.out; have := HJ15.out; have := HK4.out; have := HK5.out; have := HJ30.out; have := HJ32.out; first | omega | exact Nat.le_refl _⟩, ⟨by (with_reducible repeat (first | apply Kd.R_alloc | apply Kd.R_drewN | apply Kd.R_drew)); exact HO_201000.out⟩, ⟨by (with_reducible repeat (first | refine blk_drewN ?_ _ | refine blk_drew ?_ | refine blk_alloc ?_ _)); exact BK200.out⟩, ⟨by repeat (first | (with_reducible first | exact HB.out | apply below_alloc | apply pw_below_drewN | apply below_drew1 | refine below_set ?_ GE200.out) | exact HB.out)⟩⟩
                                                  · rw [if_neg c37] at H
                                                    have c37b0 : decide (t201 < t202) = false := decide_eq_false c37
                                                    clear c37
                                                    have H' := Aside0.mk H
                                                    clear H
                                                    have hcz40_0 : wc.cell? ⟨gb200, 0, none⟩ = some (u201000) := (blk_cell BK200.out 0).trans rfl
                                                    have hcz40_1 : wc.cell? ⟨gb200, 1, none⟩ = some (.int .i64 x201001_4) := (blk_cell BK200.out 1).trans rfl
                                                    have hcz40_2 : wc.cell? ⟨gb200, 2, none⟩ = some (.int .i64 x201002_4) := (blk_cell BK200.out 2).trans rfl
                                                    have hcz40_3 : wc.cell? ⟨gb200, 3, none⟩ = some (.int .i64 x201003_4) := (blk_cell BK200.out 3).trans rfl
                                                    have hcz40_4 : wc.cell? ⟨gb200, 4, none⟩ = some (.bool x201004_4) := (blk_cell BK200.out 4).trans rfl
                                                    have hfz40_0 := blk_frozen BK200.out 0
                                                    have hfz40_1 := blk_frozen BK200.out 1
                                                    have hfz40_2 := blk_frozen BK200.out 2
                                                    have hfz40_3 := blk_frozen BK200.out 3
                                                    have hfz40_4 := blk_frozen BK200.out 4
                                                    go_wp2_with (first | ((with_reducible refine gate_callee (f := 37) rfl ?_); refine goesL_ (some 87) rfl rfl Try.func37 (by kernel_rfl) rfl #[.int .i64 x13_5, .int .i64 x201003_4] rfl (by (try simp only [List.map_toArray, List.map_cons, List.map_nil]); first | done | rfl | (simp only [List.length_drop, List.length_take]; rfl)) ?_; (with_reducible refine (endonymref11_Threshold.calls x13_5 x201003_4 t202 _ A36.out).mono ?_); rintro e w41 ⟨rfl, hb⟩; refine ⟨_, rfl, ?_⟩; have n0_ := Aside0.mk (Kd.R_below (by (with_reducible repeat (first | apply Kd.R_alloc | apply Kd.R_drewN | apply Kd.R_drew)); exact HO_201000.out) hb); have n1_ := Aside0.mk (blk_below (g := gb200) (o := .cells #[u201000, .int .i64 x201001_4, .int .i64 x201002_4, .int .i64 x201003_4, .bool x201004_4] 45 (0, 0)) (by (with_reducible repeat (first | refine blk_drewN ?_ _ | refine blk_drew ?_ | refine blk_alloc ?_ _)); exact BK200.out) hb); have n2_ := Aside0.mk (below_step (by repeat (first | (with_reducible first | exact HB.out | apply below_alloc | apply pw_below_drewN | apply below_drew1 | refine below_set ?_ GE200.out) | exact HB.out)) hb); clear HO_201000; clear BK200; clear HB; have HO_201000 := n0_; have BK200 := n1_; have HB := n2_; clear n0_ n1_ n2_; (try clear hb); (try clear hb2); (try clear hk); (try clear hi)))
                                                    go_roundg kj32
                                                    case measure => have := HK1.out; have := HK2.out; have := HJ15.out; have := HK4.out; have := HK5.out; have := HJ30.out; have := HJ32.out; omega
                                                    case rel => exact ⟨((wrap64 (x9_5 + 1))), (x10_32), (wrap64 (x11_5 * (wrap64 (36 - t202)))), (true), (wrap64 (x13_5 + 1)), (by first | rfl | (simp; done) | (simp [*]; done)), (by first | rfl | (simp; done) | (simp [*]; done)), (by first | rfl | (simp; done) | (simp [*]; done)), (by first | rfl | (simp; done) | (simp [*]; done)), (by first | rfl | (simp; done) | (simp [*]; done)), H', ⟨by have := HK1.out; have := HK2.out; have := HJ15.out; have := HK4.out; have := HK5.out; have := HJ30.out; have := HJ32.out; omega⟩, ⟨by (with_reducible repeat (first | apply Kd.R_alloc | apply Kd.R_drewN | apply Kd.R_drew)); exact HO_201000.out⟩, ⟨by (with_reducible repeat (first | refine blk_drewN ?_ _ | refine blk_drew ?_ | refine blk_alloc ?_ _)); exact BK200.out⟩, ⟨by repeat (first | (with_reducible first | exact HB.out | apply below_alloc | apply pw_below_drewN | apply below_drew1 | refine below_set ?_ GE200.out) | exact HB.out)⟩⟩
                                                · replace c35 := Bool.eq_false_iff.mpr c35
                                                  subst c35
                                                  have H1 : ((endonymref11_Threshold.f x13_5 x201003_4).bind fun t203 => (if t201 < t203 then (endonymref11_Decode.j7 kj32 a0 (wrap64 (x9_5 + 1)) (mn (wrap64 (x10_32 + (wrap64 (t201 * x11_5)))) 2147483648) x201000_4 x201001_4 x201002_4 x201003_4 x201004_4) else (endonymref11_Decode.l3 kj32 a0 (wrap64 (x9_5 + 1)) (mn (wrap64 (x10_32 + (wrap64 (t201 * x11_5)))) 2147483648) (wrap64 (x11_5 * (wrap64 (36 - t203)))) (decide ((wrap64 (x11_5 * (wrap64 (36 - t203)))) > 2147483647)) (wrap64 (x13_5 + 1)) x201000_4 x201001_4 x201002_4 x201003_4 x201004_4))) = some (r1, r2) := by rw [if_neg (show ¬ (false = true) by decide)] at H; exact H
                                                  clear H
                                                  have H := H1
                                                  clear H1
                                                  obtain ⟨ji42, hji42⟩ : ∃ j_ : Int, (mn (wrap64 (x10_32 + (wrap64 (t201 * x11_5)))) 2147483648) = j_ := ⟨_, rfl⟩
                                                  replace H : ((endonymref11_Threshold.f x13_5 x201003_4).bind fun t203 => (if t201 < t203 then (endonymref11_Decode.j7 kj32 a0 (wrap64 (x9_5 + 1)) ji42 x201000_4 x201001_4 x201002_4 x201003_4 x201004_4) else (endonymref11_Decode.l3 kj32 a0 (wrap64 (x9_5 + 1)) ji42 (wrap64 (x11_5 * (wrap64 (36 - t203)))) (decide ((wrap64 (x11_5 * (wrap64 (36 - t203)))) > 2147483647)) (wrap64 (x13_5 + 1)) x201000_4 x201001_4 x201002_4 x201003_4 x201004_4))) = some (r1, r2) := by first | (rw [hji42] at H; exact H) | (simp only [hji42] at H ⊢; exact H)
                                                  have hji42_ : (if 2147483648 < (wrap64 (x10_32 + (wrap64 (t201 * x11_5)))) then 2147483648 else (wrap64 (x10_32 + (wrap64 (t201 * x11_5))))) = ji42 := hji42
                                                  replace H := Option.bind_eq_some_iff.mp H
                                                  obtain ⟨t203, A430, H⟩ := H
                                                  replace H : (if t201 < t203 then (endonymref11_Decode.j7 kj32 a0 (wrap64 (x9_5 + 1)) ji42 x201000_4 x201001_4 x201002_4 x201003_4 x201004_4) else (endonymref11_Decode.l3 kj32 a0 (wrap64 (x9_5 + 1)) ji42 (wrap64 (x11_5 * (wrap64 (36 - t203)))) (decide ((wrap64 (x11_5 * (wrap64 (36 - t203)))) > 2147483647)) (wrap64 (x13_5 + 1)) x201000_4 x201001_4 x201002_4 x201003_4 x201004_4)) = some (r1, r2) := H
                                                  have A43 := Aside0.mk A430
                                                  clear A430
                                                  by_cases c44 : t201 < t203
                                                  · rw [if_pos c44] at H
                                                    have c44b0 : decide (t201 < t203) = true := decide_eq_true c44
                                                    clear c44
                                                    have H' := Aside0.mk H
                                                    clear H
                                                    have hcz45_0 : wc.cell? ⟨gb200, 0, none⟩ = some (u201000) := (blk_cell BK200.out 0).trans rfl
                                                    have hcz45_1 : wc.cell? ⟨gb200, 1, none⟩ = some (.int .i64 x201001_4) := (blk_cell BK200.out 1).trans rfl
                                                    have hcz45_2 : wc.cell? ⟨gb200, 2, none⟩ = some (.int .i64 x201002_4) := (blk_cell BK200.out 2).trans rfl
                                                    have hcz45_3 : wc.cell? ⟨gb200, 3, none⟩ = some (.int .i64 x201003_4) := (blk_cell BK200.out 3).trans rfl
                                                    have hcz45_4 : wc.cell? ⟨gb200, 4, none⟩ = some (.bool x201004_4) := (blk_cell BK200.out 4).trans rfl
                                                    have hfz45_0 := blk_frozen BK200.out 0
                                                    have hfz45_1 := blk_frozen BK200.out 1
                                                    have hfz45_2 := blk_frozen BK200.out 2
                                                    have hfz45_3 := blk_frozen BK200.out 3
                                                    have hfz45_4 := blk_frozen BK200.out 4
                                                    go_wp2_with (first | ((with_reducible refine gate_callee (f := 37) rfl ?_); refine goesL_ (some 87) rfl rfl Try.func37 (by kernel_rfl) rfl #[.int .i64 x13_5, .int .i64 x201003_4] rfl (by (try simp only [List.map_toArray, List.map_cons, List.map_nil]); first | done | rfl | (simp only [List.length_drop, List.length_take]; rfl)) ?_; (with_reducible refine (endonymref11_Threshold.calls x13_5 x201003_4 t203 _ A43.out).mono ?_); rintro e w46 ⟨rfl, hb⟩; refine ⟨_, rfl, ?_⟩; have n0_ := Aside0.mk (Kd.R_below (by (with_reducible repeat (first | apply Kd.R_alloc | apply Kd.R_drewN | apply Kd.R_drew)); exact HO_201000.out) hb); have n1_ := Aside0.mk (blk_below (g := gb200) (o := .cells #[u201000, .int .i64 x201001_4, .int .i64 x201002_4, .int .i64 x201003_4, .bool x201004_4] 45 (0, 0)) (by (with_reducible repeat (first | refine blk_drewN ?_ _ | refine blk_drew ?_ | refine blk_alloc ?_ _)); exact BK200.out) hb); have n2_ := Aside0.mk (below_step (by repeat (first | (with_reducible first | exact HB.out | apply below_alloc | apply pw_below_drewN | apply below_drew1 | refine below_set ?_ GE200.out) | exact HB.out)) hb); clear HO_201000; clear BK200; clear HB; have HO_201000 := n0_; have BK200 := n1_; have HB := n2_; clear n0_ n1_ n2_; (try clear hb); (try clear hb2); (try clear hk); (try clear hi)))
                                                    go_meet
                                                    case rel => exact ⟨_, ((wrap64 (x9_5 + 1))), (ji42), (by first | rfl | (simp; done) | (simp [*]; done)), (by first | rfl | (simp; done) | (simp only [← hji42] <;> (first | rfl | simp)) | (simp [*]; done)), H', ⟨by have := HK1.out; have := HK2.out; have := HJ15.out; have := HK4.out; have := HK5.out; have := HJ30.out; have := HJ32.out; first | omega | exact Nat.le_refl _⟩, ⟨by (with_reducible repeat (first | apply Kd.R_alloc | apply Kd.R_drewN | apply Kd.R_drew)); exact HO_201000.out⟩, ⟨by (with_reducible repeat (first | refine blk_drewN ?_ _ | refine blk_drew ?_ | refine blk_alloc ?_ _)); exact BK200.out⟩, ⟨by repeat (first | (with_reducible first | exact HB.out | apply below_alloc | apply pw_below_drewN | apply below_drew1 | refine below_set ?_ GE200.out) | exact HB.out)⟩⟩
                                                  · rw [if_neg c44] at H
                                                    have c44b0 : decide (t201 < t203) = false := decide_eq_false c44
                                                    clear c44
                                                    have H' := Aside0.mk H
                                                    clear H
                                                    have hcz47_0 : wc.cell? ⟨gb200, 0, none⟩ = some (u201000) := (blk_cell BK200.out 0).trans rfl
                                                    have hcz47_1 : wc.cell? ⟨gb200, 1, none⟩ = some (.int .i64 x201001_4) := (blk_cell BK200.out 1).trans rfl
                                                    have hcz47_2 : wc.cell? ⟨gb200, 2, none⟩ = some (.int .i64 x201002_4) := (blk_cell BK200.out 2).trans rfl
                                                    have hcz47_3 : wc.cell? ⟨gb200, 3, none⟩ = some (.int .i64 x201003_4) := (blk_cell BK200.out 3).trans rfl
                                                    have hcz47_4 : wc.cell? ⟨gb200, 4, none⟩ = some (.bool x201004_4) := (blk_cell BK200.out 4).trans rfl
                                                    have hfz47_0 := blk_frozen BK200.out 0
                                                    have hfz47_1 := blk_frozen BK200.out 1
                                                    have hfz47_2 := blk_frozen BK200.out 2
                                                    have hfz47_3 := blk_frozen BK200.out 3
                                                    have hfz47_4 := blk_frozen BK200.out 4
                                                    go_wp2_with (first | ((with_reducible refine gate_callee (f := 37) rfl ?_); refine goesL_ (some 87) rfl rfl Try.func37 (by kernel_rfl) rfl #[.int .i64 x13_5, .int .i64 x201003_4] rfl (by (try simp only [List.map_toArray, List.map_cons, List.map_nil]); first | done | rfl | (simp only [List.length_drop, List.length_take]; rfl)) ?_; (with_reducible refine (endonymref11_Threshold.calls x13_5 x201003_4 t203 _ A43.out).mono ?_); rintro e w48 ⟨rfl, hb⟩; refine ⟨_, rfl, ?_⟩; have n0_ := Aside0.mk (Kd.R_below (by (with_reducible repeat (first | apply Kd.R_alloc | apply Kd.R_drewN | apply Kd.R_drew)); exact HO_201000.out) hb); have n1_ := Aside0.mk (blk_below (g := gb200) (o := .cells #[u201000, .int .i64 x201001_4, .int .i64 x201002_4, .int .i64 x201003_4, .bool x201004_4] 45 (0, 0)) (by (with_reducible repeat (first | refine blk_drewN ?_ _ | refine blk_drew ?_ | refine blk_alloc ?_ _)); exact BK200.out) hb); have n2_ := Aside0.mk (below_step (by repeat (first | (with_reducible first | exact HB.out | apply below_alloc | apply pw_below_drewN | apply below_drew1 | refine below_set ?_ GE200.out) | exact HB.out)) hb); clear HO_201000; clear BK200; clear HB; have HO_201000 := n0_; have BK200 := n1_; have HB := n2_; clear n0_ n1_ n2_; (try clear hb); (try clear hb2); (try clear hk); (try clear hi)))
                                                    go_roundg kj32
                                                    case measure => have := HK1.out; have := HK2.out; have := HJ15.out; have := HK4.out; have := HK5.out; have := HJ30.out; have := HJ32.out; omega
                                                    case rel => exact ⟨((wrap64 (x9_5 + 1))), (ji42), (wrap64 (x11_5 * (wrap64 (36 - t203)))), (decide ((wrap64 (x11_5 * (wrap64 (36 - t203)))) > 2147483647)), (wrap64 (x13_5 + 1)), (by first | rfl | (simp; done) | (simp [*]; done)), (by first | rfl | (simp; done) | (simp only [← hji42] <;> (first | rfl | simp)) | (simp [*]; done)), (by first | rfl | (simp; done) | (simp [*]; done)), (by first | rfl | (simp; done) | (simp [*]; done)), (by first | rfl | (simp; done) | (simp [*]; done)), H', ⟨by have := HK1.out; have := HK2.out; have := HJ15.out; have := HK4.out; have := HK5.out; have := HJ30.out; have := HJ32.out; omega⟩, ⟨by (with_reducible repeat (first | apply Kd.R_alloc | apply Kd.R_drewN | apply Kd.R_drew)); exact HO_201000.out⟩, ⟨by (with_reducible repeat (first | refine blk_drewN ?_ _ | refine blk_drew ?_ | refine blk_alloc ?_ _)); exact BK200.out⟩, ⟨by repeat (first | (with_reducible first | exact HB.out | apply below_alloc | apply pw_below_drewN | apply below_drew1 | refine below_set ?_ GE200.out) | exact HB.out)⟩⟩
                                    · rw [if_neg c27] at H
                                      exact absurd H (by simp)
                                  · rw [if_neg c26] at H
                                    exact absurd H (by simp)
                          case rest =>
                            clear HC24
                            try clear c1
                            try clear p1
                            try clear q1
                            try clear hx1
                            try clear c2
                            try clear c2b0
                            try clear c2b1
                            try clear p2
                            try clear q2
                            try clear hx2
                            try clear c3
                            try clear c3b0
                            try clear p3
                            try clear c4
                            try clear c4b0
                            try clear p5
                            try clear q5
                            try clear hx5
                            try clear c6
                            try clear c6b0
                            try clear p6
                            try clear p7
                            try clear q7
                            try clear hx7
                            try clear c8
                            try clear c8b0
                            try clear c8b1
                            try clear c9
                            try clear c9b0
                            try clear c10
                            try clear c10b0
                            try clear c11
                            try clear c11b0
                            try clear p12
                            try clear q12
                            try clear hx12
                            try clear c13
                            try clear c16
                            try clear c22
                            try clear c22b0
                            try clear c23
                            try clear c23b0
                            try clear c25
                            try clear c25b0
                            try clear c25b1
                            try clear c26
                            try clear c26b0
                            try clear c27
                            try clear c27b0
                            try clear p28
                            try clear q28
                            try clear hx28
                            try clear c30
                            try clear c30b0
                            try clear c32
                            try clear p32
                            try clear c34
                            try clear c35
                            try clear c36
                            try clear c37
                            try clear c37b0
                            try clear c44
                            try clear c44b0
                            try clear hcz21_0
                            try clear hcz21_1
                            try clear hcz21_2
                            try clear hcz21_3
                            try clear hcz21_4
                            try clear hcz38_0
                            try clear hcz38_1
                            try clear hcz38_2
                            try clear hcz38_3
                            try clear hcz38_4
                            try clear hcz40_0
                            try clear hcz40_1
                            try clear hcz40_2
                            try clear hcz40_3
                            try clear hcz40_4
                            try clear hcz45_0
                            try clear hcz45_1
                            try clear hcz45_2
                            try clear hcz45_3
                            try clear hcz45_4
                            try clear hcz47_0
                            try clear hcz47_1
                            try clear hcz47_2
                            try clear hcz47_3
                            try clear hcz47_4
                            try clear hfz21_0
                            try clear hfz21_1
                            try clear hfz21_2
                            try clear hfz21_3
                            try clear hfz21_4
                            try clear hfz38_0
                            try clear hfz38_1
                            try clear hfz38_2
                            try clear hfz38_3
                            try clear hfz38_4
                            try clear hfz40_0
                            try clear hfz40_1
                            try clear hfz40_2
                            try clear hfz40_3
                            try clear hfz40_4
                            try clear hfz45_0
                            try clear hfz45_1
                            try clear hfz45_2
                            try clear hfz45_3
                            try clear hfz45_4
                            try clear hfz47_0
                            try clear hfz47_1
                            try clear hfz47_2
                            try clear hfz47_3
                            try clear hfz47_4
                            try clear p1
                            try clear p12
                            try clear p2
                            try clear p28
                            try clear p3
                            try clear p32
                            try clear p5
                            try clear p6
                            try clear p7
                            try clear q1
                            try clear q12
                            try clear q2
                            try clear q28
                            try clear q5
                            try clear q7
                            obtain ⟨kq, x9_23, x10_23, rfl, rfl, HA, HJ23, HO_201000, BK200, HB⟩ := hcut
                            cases kq with
                            | zero => exact absurd HA.out (by simp [endonymref11_Decode.j7])
                            | succ kj23 =>
                              have H := HA.out
                              clear HA
                              simp only [endonymref11_Decode.j7] at H
                              by_cases c49 : x10_23 > 2147483647
                              · rw [if_pos c49] at H
                                have c49b0 : decide (2147483647 < x10_23) = true := decide_eq_true c49
                                clear c49
                                simp only [Option.some.injEq, Prod.mk.injEq] at H
                                obtain ⟨rfl, rfl⟩ := H
                                go_wp2
                                go_ret2
                                exact ⟨_, by first | rfl | (simp [errW_none, errW_some] <;> rfl) | (simp [*, errW_none, errW_some] <;> rfl), by first | exact Kd.R_nil _ _ _ _ _ | exact Kd.N_nil _ _ _ _ _ | exact Kd.V_nil _ _ _ _ _ | exact Kd.Q_nil _ _ _ _ _ | exact Kd.S_nil _ _ _ _ _, by repeat (first | (with_reducible first | exact HB.out | apply below_alloc | apply pw_below_drewN | apply below_drew1 | refine below_set ?_ GE200.out) | exact HB.out)⟩
                              · rw [if_neg c49] at H
                                have c49b0 : decide (2147483647 < x10_23) = false := decide_eq_false c49
                                clear c49
                                replace H := Option.bind_eq_some_iff.mp H
                                obtain ⟨⟨t204, t207, t208, t209, t210, t211⟩, A500, H⟩ := H
                                replace H : (if t211 = true then (endonymref11_Decode.l2 kj23 a0 x9_23 t204 t207 t208 t209 t210) else (some (([] : List Int), 31))) = some (r1, r2) := H
                                have A50 := Aside0.mk A500
                                clear A500
                                by_cases c51 : t211 = true
                                · subst c51
                                  have H1 : (endonymref11_Decode.l2 kj23 a0 x9_23 t204 t207 t208 t209 t210) = some (r1, r2) := by rw [if_pos rfl] at H; exact H
                                  clear H
                                  have H := H1
                                  clear H1
                                  have H' := Aside0.mk H
                                  clear H
                                  have hcz52_0 : wc.cell? ⟨gb200, 0, none⟩ = some (u201000) := (blk_cell BK200.out 0).trans rfl
                                  have hcz52_1 : wc.cell? ⟨gb200, 1, none⟩ = some (.int .i64 x201001_4) := (blk_cell BK200.out 1).trans rfl
                                  have hcz52_2 : wc.cell? ⟨gb200, 2, none⟩ = some (.int .i64 x201002_4) := (blk_cell BK200.out 2).trans rfl
                                  have hcz52_3 : wc.cell? ⟨gb200, 3, none⟩ = some (.int .i64 x201003_4) := (blk_cell BK200.out 3).trans rfl
                                  have hcz52_4 : wc.cell? ⟨gb200, 4, none⟩ = some (.bool x201004_4) := (blk_cell BK200.out 4).trans rfl
                                  have hfz52_0 := blk_frozen BK200.out 0
                                  have hfz52_1 := blk_frozen BK200.out 1
                                  have hfz52_2 := blk_frozen BK200.out 2
                                  have hfz52_3 := blk_frozen BK200.out 3
                                  have hfz52_4 := blk_frozen BK200.out 4
                                  obtain ⟨Ao53, co53, eo53⟩ := Kd.R_slice HO_201000.out
                                  subst eo53
                                  go_wp2_with (first | ((with_reducible refine gate_callee (f := 25) rfl ?_); refine goesL_ (some 105) rfl rfl Try.func25 (by kernel_rfl) rfl #[.agg #[.slice Ao53 x201000_4.length co53, .int .i64 x201001_4, .int .i64 x201002_4, .int .i64 x201003_4, .bool x201004_4], .int .i64 x10_23] rfl (by (try simp only [List.map_toArray, List.map_cons, List.map_nil]); first | done | rfl | (simp only [List.length_drop, List.length_take]; rfl)) ?_; (with_reducible refine (endonymref11_Step.calls (fun k_ => some k_ = (.slice Ao53 x201000_4.length co53 : Value).ownBlock) (.slice Ao53 x201000_4.length co53) x201000_4 x201001_4 x201002_4 x201003_4 x201004_4 x10_23 t204 t207 t208 t209 t210 true w _ ?side1 ?side2 A50.out).mono ?_); (case side1 => repeat (first | (with_reducible first | exact HB.out | apply below_alloc | apply pw_below_drewN | apply below_drew1 | refine below_set ?_ GE200.out) | exact HB.out)); (case side2 => exact Kd.R_tight rfl HO_201000.out); rintro e w54 ⟨v205, rfl, ho0, hb, hkp⟩; refine ⟨_, rfl, ?_⟩; have n0_ := Aside0.mk (blk_kept (by (with_reducible repeat (first | refine blk_drewN ?_ _ | refine blk_drew ?_ | refine blk_alloc ?_ _)); exact BK200.out) hkp (fun hs_ => (fun e_ => (Kd.R_ne HO_201000.out BK200.out (by decide)) e_) hs_)); have n1_ := Aside0.mk (Kd.R_mono (ok' := fun k_ => True) ho0 (fun k_ hk_ => trivial)); have n2_ := Aside0.mk (hb); clear BK200; clear HB; clear HO_201000; have BK200 := n0_; have HO206 := n1_; have HB := n2_; clear n0_ n1_ n2_; (try clear hb); (try clear hkp); (try clear ho0); obtain ⟨Ao55, co55, eo55⟩ := Kd.R_slice HO206.out; subst eo55; have hcz56_0 : w54.cell? ⟨gb200, 0, none⟩ = some (.slice Ao53 x201000_4.length co53) := (blk_cell BK200.out 0).trans rfl; have hcz56_1 : w54.cell? ⟨gb200, 1, none⟩ = some (.int .i64 x201001_4) := (blk_cell BK200.out 1).trans rfl; have hcz56_2 : w54.cell? ⟨gb200, 2, none⟩ = some (.int .i64 x201002_4) := (blk_cell BK200.out 2).trans rfl; have hcz56_3 : w54.cell? ⟨gb200, 3, none⟩ = some (.int .i64 x201003_4) := (blk_cell BK200.out 3).trans rfl; have hcz56_4 : w54.cell? ⟨gb200, 4, none⟩ = some (.bool x201004_4) := (blk_cell BK200.out 4).trans rfl; have hfz56_0 := blk_frozen BK200.out 0; have hfz56_1 := blk_frozen BK200.out 1; have hfz56_2 := blk_frozen BK200.out 2; have hfz56_3 := blk_frozen BK200.out 3; have hfz56_4 := blk_frozen BK200.out 4))
                                  go_roundg kj23
                                  case measure => have := HK1.out; have := HK2.out; have := HJ15.out; have := HK4.out; have := HJ23.out; omega
                                  case rel => exact ⟨(x9_23), (t204), (t207), (t208), (t209), (t210), (.slice Ao55 t204.length co55), (by first | rfl | (simp; done) | (simp [*]; done)), H', ⟨by have := HK1.out; have := HK2.out; have := HJ15.out; have := HK4.out; have := HJ23.out; omega⟩, ⟨by (with_reducible repeat (first | apply Kd.R_alloc | apply Kd.R_drewN | apply Kd.R_drew)); exact Kd.R_mono (Kd.R_far (p := ⟨gb200, 4, none⟩) (Kd.R_far (p := ⟨gb200, 3, none⟩) (Kd.R_far (p := ⟨gb200, 2, none⟩) (Kd.R_far (p := ⟨gb200, 1, none⟩) (Kd.R_far (p := ⟨gb200, 0, none⟩) (Kd.R_types HO206.out BK200.out (by decide)) (fun _ hk => hk.2) (.slice Ao55 t204.length co55)) (fun _ hk => hk.2) (.int .i64 t207)) (fun _ hk => hk.2) (.int .i64 t208)) (fun _ hk => hk.2) (.int .i64 t209)) (fun _ hk => hk.2) (.bool t210)) (fun _ hk => trivial)⟩, ⟨by (with_reducible repeat (first | refine blk_drewN ?_ _ | refine blk_drew ?_ | refine blk_alloc ?_ _)); refine blk_put (cs := #[.slice Ao55 t204.length co55, .int .i64 t207, .int .i64 t208, .int .i64 t209, .bool x201004_4]) ?_ 4 _ rfl; (with_reducible repeat (first | refine blk_drewN ?_ _ | refine blk_drew ?_ | refine blk_alloc ?_ _)); refine blk_put (cs := #[.slice Ao55 t204.length co55, .int .i64 t207, .int .i64 t208, .int .i64 x201003_4, .bool x201004_4]) ?_ 3 _ rfl; (with_reducible repeat (first | refine blk_drewN ?_ _ | refine blk_drew ?_ | refine blk_alloc ?_ _)); refine blk_put (cs := #[.slice Ao55 t204.length co55, .int .i64 t207, .int .i64 x201002_4, .int .i64 x201003_4, .bool x201004_4]) ?_ 2 _ rfl; (with_reducible repeat (first | refine blk_drewN ?_ _ | refine blk_drew ?_ | refine blk_alloc ?_ _)); refine blk_put (cs := #[.slice Ao55 t204.length co55, .int .i64 x201001_4, .int .i64 x201002_4, .int .i64 x201003_4, .bool x201004_4]) ?_ 1 _ rfl; (with_reducible repeat (first | refine blk_drewN ?_ _ | refine blk_drew ?_ | refine blk_alloc ?_ _)); refine blk_put (cs := #[.slice Ao53 x201000_4.length co53, .int .i64 x201001_4, .int .i64 x201002_4, .int .i64 x201003_4, .bool x201004_4]) ?_ 0 _ rfl; (with_reducible repeat (first | refine blk_drewN ?_ _ | refine blk_drew ?_ | refine blk_alloc ?_ _)); exact BK200.out⟩, ⟨by repeat (first | (with_reducible first | exact HB.out | apply below_alloc | apply pw_below_drewN | apply below_drew1 | refine below_set ?_ GE200.out) | exact HB.out)⟩⟩
                                · replace c51 := Bool.eq_false_iff.mpr c51
                                  subst c51
                                  have H1 : (some (([] : List Int), 31)) = some (r1, r2) := by rw [if_neg (show ¬ (false = true) by decide)] at H; exact H
                                  clear H
                                  have H := H1
                                  clear H1
                                  simp only [Option.some.injEq, Prod.mk.injEq] at H
                                  obtain ⟨rfl, rfl⟩ := H
                                  have hcz57_0 : wc.cell? ⟨gb200, 0, none⟩ = some (u201000) := (blk_cell BK200.out 0).trans rfl
                                  have hcz57_1 : wc.cell? ⟨gb200, 1, none⟩ = some (.int .i64 x201001_4) := (blk_cell BK200.out 1).trans rfl
                                  have hcz57_2 : wc.cell? ⟨gb200, 2, none⟩ = some (.int .i64 x201002_4) := (blk_cell BK200.out 2).trans rfl
                                  have hcz57_3 : wc.cell? ⟨gb200, 3, none⟩ = some (.int .i64 x201003_4) := (blk_cell BK200.out 3).trans rfl
                                  have hcz57_4 : wc.cell? ⟨gb200, 4, none⟩ = some (.bool x201004_4) := (blk_cell BK200.out 4).trans rfl
                                  have hfz57_0 := blk_frozen BK200.out 0
                                  have hfz57_1 := blk_frozen BK200.out 1
                                  have hfz57_2 := blk_frozen BK200.out 2
                                  have hfz57_3 := blk_frozen BK200.out 3
                                  have hfz57_4 := blk_frozen BK200.out 4
                                  obtain ⟨Ao58, co58, eo58⟩ := Kd.R_slice HO_201000.out
                                  subst eo58
                                  go_wp2_with (first | ((with_reducible refine gate_callee (f := 25) rfl ?_); refine goesL_ (some 105) rfl rfl Try.func25 (by kernel_rfl) rfl #[.agg #[.slice Ao58 x201000_4.length co58, .int .i64 x201001_4, .int .i64 x201002_4, .int .i64 x201003_4, .bool x201004_4], .int .i64 x10_23] rfl (by (try simp only [List.map_toArray, List.map_cons, List.map_nil]); first | done | rfl | (simp only [List.length_drop, List.length_take]; rfl)) ?_; (with_reducible refine (endonymref11_Step.calls (fun k_ => some k_ = (.slice Ao58 x201000_4.length co58 : Value).ownBlock) (.slice Ao58 x201000_4.length co58) x201000_4 x201001_4 x201002_4 x201003_4 x201004_4 x10_23 t204 t207 t208 t209 t210 false w _ ?side1 ?side2 A50.out).mono ?_); (case side1 => repeat (first | (with_reducible first | exact HB.out | apply below_alloc | apply pw_below_drewN | apply below_drew1 | refine below_set ?_ GE200.out) | exact HB.out)); (case side2 => exact Kd.R_tight rfl HO_201000.out); rintro e w59 ⟨v205, rfl, ho0, hb, hkp⟩; refine ⟨_, rfl, ?_⟩; have n0_ := Aside0.mk (blk_kept (by (with_reducible repeat (first | refine blk_drewN ?_ _ | refine blk_drew ?_ | refine blk_alloc ?_ _)); exact BK200.out) hkp (fun hs_ => (fun e_ => (Kd.R_ne HO_201000.out BK200.out (by decide)) e_) hs_)); have n1_ := Aside0.mk (Kd.R_mono (ok' := fun k_ => True) ho0 (fun k_ hk_ => trivial)); have n2_ := Aside0.mk (hb); clear BK200; clear HB; clear HO_201000; have BK200 := n0_; have HO206 := n1_; have HB := n2_; clear n0_ n1_ n2_; (try clear hb); (try clear hkp); (try clear ho0); obtain ⟨Ao60, co60, eo60⟩ := Kd.R_slice HO206.out; subst eo60; have hcz61_0 : w59.cell? ⟨gb200, 0, none⟩ = some (.slice Ao58 x201000_4.length co58) := (blk_cell BK200.out 0).trans rfl; have hcz61_1 : w59.cell? ⟨gb200, 1, none⟩ = some (.int .i64 x201001_4) := (blk_cell BK200.out 1).trans rfl; have hcz61_2 : w59.cell? ⟨gb200, 2, none⟩ = some (.int .i64 x201002_4) := (blk_cell BK200.out 2).trans rfl; have hcz61_3 : w59.cell? ⟨gb200, 3, none⟩ = some (.int .i64 x201003_4) := (blk_cell BK200.out 3).trans rfl; have hcz61_4 : w59.cell? ⟨gb200, 4, none⟩ = some (.bool x201004_4) := (blk_cell BK200.out 4).trans rfl; have hfz61_0 := blk_frozen BK200.out 0; have hfz61_1 := blk_frozen BK200.out 1; have hfz61_2 := blk_frozen BK200.out 2; have hfz61_3 := blk_frozen BK200.out 3; have hfz61_4 := blk_frozen BK200.out 4))
                                  go_ret2
                                  exact ⟨_, by first | rfl | (simp [errW_none, errW_some] <;> rfl) | (simp [*, errW_none, errW_some] <;> rfl), by first | exact Kd.R_nil _ _ _ _ _ | exact Kd.N_nil _ _ _ _ _ | exact Kd.V_nil _ _ _ _ _ | exact Kd.Q_nil _ _ _ _ _ | exact Kd.S_nil _ _ _ _ _, by repeat (first | (with_reducible first | exact HB.out | apply below_alloc | apply pw_below_drewN | apply below_drew1 | refine below_set ?_ GE200.out) | exact HB.out)⟩
                        · rw [if_neg c23] at H
                          have c23b0 : decide (x9_4 < (a0.size : Int)) = false := decide_eq_false c23
                          clear c23
                          simp only [Option.some.injEq, Prod.mk.injEq] at H
                          obtain ⟨rfl, rfl⟩ := H
                          have hcz62_0 : wr.cell? ⟨gb200, 0, none⟩ = some (u201000) := (blk_cell BK200.out 0).trans rfl
                          have hcz62_1 : wr.cell? ⟨gb200, 1, none⟩ = some (.int .i64 x201001_4) := (blk_cell BK200.out 1).trans rfl
                          have hcz62_2 : wr.cell? ⟨gb200, 2, none⟩ = some (.int .i64 x201002_4) := (blk_cell BK200.out 2).trans rfl
                          have hcz62_3 : wr.cell? ⟨gb200, 3, none⟩ = some (.int .i64 x201003_4) := (blk_cell BK200.out 3).trans rfl
                          have hcz62_4 : wr.cell? ⟨gb200, 4, none⟩ = some (.bool x201004_4) := (blk_cell BK200.out 4).trans rfl
                          have hfz62_0 := blk_frozen BK200.out 0
                          have hfz62_1 := blk_frozen BK200.out 1
                          have hfz62_2 := blk_frozen BK200.out 2
                          have hfz62_3 := blk_frozen BK200.out 3
                          have hfz62_4 := blk_frozen BK200.out 4
                          go_wp2
                          go_ret2
                          exact ⟨_, by first | rfl | (simp [errW_none, errW_some] <;> rfl) | (simp [*, errW_none, errW_some] <;> rfl), by (with_reducible repeat (first | apply Kd.R_alloc | apply Kd.R_drewN | apply Kd.R_drew)); exact HO_201000.out, by repeat (first | (with_reducible first | exact HB.out | apply below_alloc | apply pw_below_drewN | apply below_drew1 | refine below_set ?_ GE200.out) | exact HB.out)⟩

end Go.Proofs.Yticocjpfhllelaa.XP
