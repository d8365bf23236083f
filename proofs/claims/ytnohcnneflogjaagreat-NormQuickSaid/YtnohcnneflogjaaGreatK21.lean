/- What is wrong with a record, walked: the program's. -/
import Derived.Test.YtnohcnneflogjaaGreatK05
import Derived.Test.YtnohcnneflogjaaGreatK04
set_option maxHeartbeats 8000000
set_option maxRecDepth 100000
set_option linter.unusedVariables false
set_option linter.unusedSimpArgs false
namespace Go.Proofs.YtnohcnneflogjaaGreat.M
open Go.RowKit
theorem span_cases (lo hi : Int) : (decide (0 ≤ lo) = false) ∨ (decide (0 ≤ lo) = true ∧ decide (lo ≤ hi) = false) ∨ (decide (0 ≤ lo) = true ∧ decide (lo ≤ hi) = true ∧ decide (hi ≤ 1114111) = false) ∨ (decide (0 ≤ lo) = true ∧ decide (lo ≤ hi) = true ∧ decide (hi ≤ 1114111) = true) := by
 cases decide (0 ≤ lo) <;> cases decide (lo ≤ hi) <;> cases decide (hi ≤ 1114111) <;> simp
theorem Right_calls (x : Rec) (A : Option Addr) (c : Nat) (r : Int) (w : World) (hr : Ints .i32 w A x.to) (hl : x.to.length < 4611686018427387904) (hu : x.weight < 18446744073709551616) (h : rightE x = r) :
 Calls Tryz.prog 182 #[recV x A c] w fun e w' => e = .returned (.int .i64 r) ∧ Up w w' := by
 have hu96 := Tryz.underlying113
 have RB := recBox_new w x A c
 by_cases hf : fam x.kind = 0
 ·have hr0 : r = 60 := by rw [← h]; unfold rightE; rw [if_pos hf]
  subst hr0
  have e1 : (fam x.kind == 0) = true := beq_iff_eq.mpr hf
  clear hf h
  go_enter Tryz.func182, Tryz.ntmps182
  go_wp2_with (first | (go_at_call 167; (with_reducible refine (Family_calls x.kind _).mono ?_); rintro e w1 ⟨rfl, hb1⟩; obtain ⟨k0, k1, k2, k3, k4, k5, k6, k7⟩ := RB.keep hb1))
  go_ret
  exact ⟨rfl, up_trans (up_alloc (up_refl _) _) hb1⟩
 have hk : 1 ≤ x.kind ∧ x.kind ≤ 15 := by
  rcases fam_range x.kind with h' | h'
  ·exact absurd h' hf
  ·exact h'
 have e1 : (fam x.kind == 0) = false := bqf hf
 have HK := Az.mk hk
 have HR := Az.mk hr
 have hr1 : (if ((if x.kind = 15 then decide (x.lo = 0) && decide (x.hi = 0) else spanB x) && fitsB x) = true then 0 else 61) = r := by
  rw [← h]; unfold rightE; rw [if_neg hf]
 have H1 := Az.mk hr1
 clear hr hf hk h hr1
 by_cases h15 : x.kind = 15
 ·have e2 : (x.kind == 15) = true := beq_iff_eq.mpr h15
  have h1 := H1.out
  rw [if_pos h15] at h1
  clear H1 h15
  cases c4 : decide (x.lo = 0) with
  | false =>
    have e4 : (x.lo == 0) = false := bqf (of_decide_eq_false c4)
    rw [c4] at h1
    subst h1
    clear c4
    rcases span_cases x.lo x.hi with d1 | ⟨d1, d2⟩ | ⟨d1, d2, d3⟩ | ⟨d1, d2, d3⟩
    all_goals
     go_enter Tryz.func182, Tryz.ntmps182
     go_wp2_with (first | (go_at_call 167; (with_reducible refine (Family_calls x.kind _).mono ?_); rintro e w1 ⟨rfl, hb1⟩; obtain ⟨k0, k1, k2, k3, k4, k5, k6, k7⟩ := RB.keep hb1))
     go_ret
     exact ⟨rfl, up_trans (up_alloc (up_refl _) _) hb1⟩
  | true =>
    have e4 : (x.lo == 0) = true := beq_iff_eq.mpr (of_decide_eq_true c4)
    cases c5 : decide (x.hi = 0) with
    | false =>
      have e5 : (x.hi == 0) = false := bqf (of_decide_eq_false c5)
      rw [c4, c5] at h1
      subst h1
      clear c4 c5
      rcases span_cases x.lo x.hi with d1 | ⟨d1, d2⟩ | ⟨d1, d2, d3⟩ | ⟨d1, d2, d3⟩
      all_goals
       go_enter Tryz.func182, Tryz.ntmps182
       go_wp2_with (first | (go_at_call 167; (with_reducible refine (Family_calls x.kind _).mono ?_); rintro e w1 ⟨rfl, hb1⟩; obtain ⟨k0, k1, k2, k3, k4, k5, k6, k7⟩ := RB.keep hb1))
       go_ret
       exact ⟨rfl, up_trans (up_alloc (up_refl _) _) hb1⟩
    | true =>
      have e5 : (x.hi == 0) = true := beq_iff_eq.mpr (of_decide_eq_true c5)
      rw [c4, c5, Bool.true_and, Bool.true_and] at h1
      have d1 : decide (0 ≤ x.lo) = true := dTz (by have := of_decide_eq_true c4; omega)
      have d2 : decide (x.lo ≤ x.hi) = true := dTz (by have := of_decide_eq_true c4; have := of_decide_eq_true c5; omega)
      have d3 : decide (x.hi ≤ 1114111) = true := dTz (by have := of_decide_eq_true c5; omega)
      clear c4 c5
      cases hfit : fitsB x with
      | false =>
        rw [hfit] at h1
        subst h1
        go_enter Tryz.func182, Tryz.ntmps182
        go_wp2_with (first | (go_at_call 167; (with_reducible refine (Family_calls x.kind _).mono ?_); rintro e w1 ⟨rfl, hb1⟩; obtain ⟨k0, k1, k2, k3, k4, k5, k6, k7⟩ := RB.keep hb1; have HR1 := Az.mk (HR.out.up (up_trans (up_alloc (up_refl _) _) hb1))) | (go_at_call 205; (with_reducible refine (fits_calls x A c _ _ HR1.out hl hu HK.out hfit).mono ?_); rintro e w2 ⟨rfl, hb2⟩))
        go_ret
        exact ⟨rfl, up_trans (up_trans (up_alloc (up_refl _) _) hb1) hb2⟩
      | true =>
        rw [hfit] at h1
        subst h1
        go_enter Tryz.func182, Tryz.ntmps182
        go_wp2_with (first | (go_at_call 167; (with_reducible refine (Family_calls x.kind _).mono ?_); rintro e w1 ⟨rfl, hb1⟩; obtain ⟨k0, k1, k2, k3, k4, k5, k6, k7⟩ := RB.keep hb1; have HR1 := Az.mk (HR.out.up (up_trans (up_alloc (up_refl _) _) hb1))) | (go_at_call 205; (with_reducible refine (fits_calls x A c _ _ HR1.out hl hu HK.out hfit).mono ?_); rintro e w2 ⟨rfl, hb2⟩))
        go_ret
        exact ⟨rfl, up_trans (up_trans (up_alloc (up_refl _) _) hb1) hb2⟩
 ·have e2 : (x.kind == 15) = false := bqf h15
  have h1 := H1.out
  rw [if_neg h15] at h1
  clear H1 h15
  rcases span_cases x.lo x.hi with d1 | ⟨d1, d2⟩ | ⟨d1, d2, d3⟩ | ⟨d1, d2, d3⟩
  ·rw [spanB, d1] at h1
   subst h1
   go_enter Tryz.func182, Tryz.ntmps182
   go_wp2_with (first | (go_at_call 167; (with_reducible refine (Family_calls x.kind _).mono ?_); rintro e w1 ⟨rfl, hb1⟩; obtain ⟨k0, k1, k2, k3, k4, k5, k6, k7⟩ := RB.keep hb1))
   go_ret
   exact ⟨rfl, up_trans (up_alloc (up_refl _) _) hb1⟩
  ·rw [spanB, d1, d2] at h1
   subst h1
   go_enter Tryz.func182, Tryz.ntmps182
   go_wp2_with (first | (go_at_call 167; (with_reducible refine (Family_calls x.kind _).mono ?_); rintro e w1 ⟨rfl, hb1⟩; obtain ⟨k0, k1, k2, k3, k4, k5, k6, k7⟩ := RB.keep hb1))
   go_ret
   exact ⟨rfl, up_trans (up_alloc (up_refl _) _) hb1⟩
  ·rw [spanB, d1, d2, d3] at h1
   subst h1
   go_enter Tryz.func182, Tryz.ntmps182
   go_wp2_with (first | (go_at_call 167; (with_reducible refine (Family_calls x.kind _).mono ?_); rintro e w1 ⟨rfl, hb1⟩; obtain ⟨k0, k1, k2, k3, k4, k5, k6, k7⟩ := RB.keep hb1))
   go_ret
   exact ⟨rfl, up_trans (up_alloc (up_refl _) _) hb1⟩
  ·rw [spanB, d1, d2, d3] at h1
   cases hfit : fitsB x with
   | false =>
     rw [hfit] at h1
     subst h1
     go_enter Tryz.func182, Tryz.ntmps182
     go_wp2_with (first | (go_at_call 167; (with_reducible refine (Family_calls x.kind _).mono ?_); rintro e w1 ⟨rfl, hb1⟩; obtain ⟨k0, k1, k2, k3, k4, k5, k6, k7⟩ := RB.keep hb1; have HR1 := Az.mk (HR.out.up (up_trans (up_alloc (up_refl _) _) hb1))) | (go_at_call 205; (with_reducible refine (fits_calls x A c _ _ HR1.out hl hu HK.out hfit).mono ?_); rintro e w2 ⟨rfl, hb2⟩))
     go_ret
     exact ⟨rfl, up_trans (up_trans (up_alloc (up_refl _) _) hb1) hb2⟩
   | true =>
     rw [hfit] at h1
     subst h1
     go_enter Tryz.func182, Tryz.ntmps182
     go_wp2_with (first | (go_at_call 167; (with_reducible refine (Family_calls x.kind _).mono ?_); rintro e w1 ⟨rfl, hb1⟩; obtain ⟨k0, k1, k2, k3, k4, k5, k6, k7⟩ := RB.keep hb1; have HR1 := Az.mk (HR.out.up (up_trans (up_alloc (up_refl _) _) hb1))) | (go_at_call 205; (with_reducible refine (fits_calls x A c _ _ HR1.out hl hu HK.out hfit).mono ?_); rintro e w2 ⟨rfl, hb2⟩))
     go_ret
     exact ⟨rfl, up_trans (up_trans (up_alloc (up_refl _) _) hb1) hb2⟩
end Go.Proofs.YtnohcnneflogjaaGreat.M
namespace Go.Proofs.YtnohcnneflogjaaGreat.M
open Go.RowKit
def statN (k : Int) : Int := if k = 1 then 1 else if k = 2 then 2 else if k = 3 ∨ k = 4 then 3 else if k = 5 then 4 else 0
theorem statusOf_calls (k : Int) (w : World) (h1 : 1 ≤ k) (h2 : k ≤ 15) : Calls Tryz.prog 159 #[.int .i64 k] w fun e w' => e = .returned (.int .i64 (statN k)) ∧ w = w' := by
 rcases fam_cases h1 h2 with rfl | rfl | rfl | rfl | rfl | rfl | rfl | rfl | rfl | rfl | rfl | rfl | rfl | rfl | rfl
 all_goals
  go_enter Tryz.func159, Tryz.ntmps159
  go_wp2
  go_ret
  exact ⟨rfl, rfl⟩
theorem valN1_calls (x : Rec) (A : Option Addr) (c : Nat) (w : World) : Calls Tryz.prog 120 #[recV x A c] w fun e w' => e = .returned (.int .i64 x.n) ∧ Up w w' := by
 have hu96 := Tryz.underlying113
 go_enter Tryz.func120, Tryz.ntmps120
 go_wp2
 go_ret
 exact ⟨rfl, up_alloc (up_refl _) _⟩
theorem valN2_calls (x : Rec) (A : Option Addr) (c : Nat) (w : World) : Calls Tryz.prog 121 #[recV x A c] w fun e w' => e = .returned (.int .i64 x.n) ∧ Up w w' := by
 have hu96 := Tryz.underlying113
 go_enter Tryz.func121, Tryz.ntmps121
 go_wp2
 go_ret
 exact ⟨rfl, up_alloc (up_refl _) _⟩
theorem valN3_calls (x : Rec) (A : Option Addr) (c : Nat) (w : World) : Calls Tryz.prog 122 #[recV x A c] w fun e w' => e = .returned (.int .i64 x.n) ∧ Up w w' := by
 have hu96 := Tryz.underlying113
 go_enter Tryz.func122, Tryz.ntmps122
 go_wp2
 go_ret
 exact ⟨rfl, up_alloc (up_refl _) _⟩
theorem valN4_calls (x : Rec) (A : Option Addr) (c : Nat) (w : World) : Calls Tryz.prog 123 #[recV x A c] w fun e w' => e = .returned (.int .i64 1) ∧ Up w w' := by
 have hu96 := Tryz.underlying113
 go_enter Tryz.func123, Tryz.ntmps123
 go_wp2
 go_ret
 exact ⟨rfl, up_alloc (up_refl _) _⟩
end Go.Proofs.YtnohcnneflogjaaGreat.M
