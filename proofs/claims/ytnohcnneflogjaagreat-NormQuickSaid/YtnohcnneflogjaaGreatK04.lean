/- What fits a record's kind, walked kind by kind. (Printed by gen_fits.py, a program of mine.) -/
import Derived.Test.YtnohcnneflogjaaGreatK03
set_option maxHeartbeats 8000000
set_option maxRecDepth 100000
set_option linter.unusedVariables false
set_option linter.unusedSimpArgs false
namespace Go.Proofs.YtnohcnneflogjaaGreat.M
open Go.RowKit
theorem mfits_1 {p : Prop} (h : p := by
 subst h
 go_enter Tryz.func205, Tryz.ntmps205
 go_wp2_with (first | (go_at_call 220; (with_reducible refine (nothing_calls x A c _ _ _ _ _ _ c0).mono ?_); rintro e w1 ⟨rfl, hb1⟩; obtain ⟨k0, k1, k2, k3, k4, k5, k6, k7⟩ := (RB _).keep hb1; have HR1 := Az.mk (HR.out.up (up_trans (up_alloc (up_alloc (up_refl _) _) _) hb1))))
 go_ret
 exact ⟨rfl, (up_trans (up_alloc (up_alloc (up_refl _) _) _) hb1)⟩) : p := h
theorem mfits_10 {p : Prop} (h : p := by
 rw [c1] at h
 subst h
 go_enter Tryz.func205, Tryz.ntmps205
 go_wp2_with (first | (go_at_call 220; (with_reducible refine (nothing_calls x A c _ _ _ _ _ _ c0).mono ?_); rintro e w1 ⟨rfl, hb1⟩; obtain ⟨k0, k1, k2, k3, k4, k5, k6, k7⟩ := (RB _).keep hb1; have HR1 := Az.mk (HR.out.up (up_trans (up_alloc (up_alloc (up_refl _) _) _) hb1))) | (go_at_call 221; (with_reducible refine (sound_calls x A c 1 24 _ _ HR1.out hl c1).mono ?_); rintro e w2 ⟨rfl, hb2⟩; obtain ⟨k0, k1, k2, k3, k4, k5, k6, k7⟩ := (((RB _).keep hb1).keep hb2); have HR2 := Az.mk (HR.out.up (up_trans (up_trans (up_alloc (up_alloc (up_refl _) _) _) hb1) hb2))))
 go_ret
 exact ⟨rfl, (up_trans (up_trans (up_alloc (up_alloc (up_refl _) _) _) hb1) hb2)⟩) : p := h
theorem fits_3 (x : Rec) (hk : x.kind = 3) (A : Option Addr) (c : Nat) (b : Bool) (w : World) (hr : Ints .i32 w A x.to) (hl : x.to.length < 4611686018427387904) (hu : x.weight < 18446744073709551616) (h : fitsB x = b) : Calls Tryz.prog 205 #[recV x A c] w fun e w' => e = .returned (.bool b) ∧ Up w w' := by
 have hu96 := Tryz.underlying113
 have hu215 := Tryz.underlying238
 have RB := fun o => (recBox_new w x A c).keep (up_alloc (up_refl _) o)
 have HR := Az.mk hr
 clear hr
 have e3 : (x.kind == 3) = true := beq_iff_eq.mpr hk
 have hf : fitsB x = (bareB x false true false false false && (listB x.to 1 24)) := by
  unfold fitsB; simp only [hk]; rfl
 rw [hf] at h
 clear hf
 have hb0 : bareB x (!true) (!false) (!true) (decide (x.kind = 15)) (!true) = bareB x false true false false false := by
  rw [dFz (by omega)]; rfl
 clear hk
 rw [← hb0] at h
 cases c0 : bareB x (!true) (!false) (!true) (decide (x.kind = 15)) (!true) with
 | false =>
   rw [c0, Bool.false_and] at h
   exact mfits_1
 | true =>
   rw [c0, Bool.true_and] at h
   cases c1 : listB x.to 1 24 with
   | false =>
     exact mfits_10
   | true =>
     exact mfits_10
theorem mfits_11 {p : Prop} (h : p := by
 rw [c1] at h
 subst h
 go_enter Tryz.func205, Tryz.ntmps205
 go_wp2_with (first | (go_at_call 220; (with_reducible refine (nothing_calls x A c _ _ _ _ _ _ c0).mono ?_); rintro e w1 ⟨rfl, hb1⟩; obtain ⟨k0, k1, k2, k3, k4, k5, k6, k7⟩ := (RB _).keep hb1; have HR1 := Az.mk (HR.out.up (up_trans (up_alloc (up_alloc (up_refl _) _) _) hb1))) | (go_at_call 222; (with_reducible refine (shifts_calls x A c _ _ HR1.out c1).mono ?_); rintro e w2 ⟨rfl, hb2⟩; obtain ⟨k0, k1, k2, k3, k4, k5, k6, k7⟩ := (((RB _).keep hb1).keep hb2); have HR2 := Az.mk (HR.out.up (up_trans (up_trans (up_alloc (up_alloc (up_refl _) _) _) hb1) hb2))))
 go_ret
 exact ⟨rfl, (up_trans (up_trans (up_alloc (up_alloc (up_refl _) _) _) hb1) hb2)⟩) : p := h
theorem fits_4 (x : Rec) (hk : x.kind = 4) (A : Option Addr) (c : Nat) (b : Bool) (w : World) (hr : Ints .i32 w A x.to) (hl : x.to.length < 4611686018427387904) (hu : x.weight < 18446744073709551616) (h : fitsB x = b) : Calls Tryz.prog 205 #[recV x A c] w fun e w' => e = .returned (.bool b) ∧ Up w w' := by
 have hu96 := Tryz.underlying113
 have hu215 := Tryz.underlying238
 have RB := fun o => (recBox_new w x A c).keep (up_alloc (up_refl _) o)
 have HR := Az.mk hr
 clear hr
 have e3 : (x.kind == 3) = false := bqf (by omega)
 have e4 : (x.kind == 4) = true := beq_iff_eq.mpr hk
 have hf : fitsB x = (bareB x true true false false false && (shiftsB x)) := by
  unfold fitsB; simp only [hk]; rfl
 rw [hf] at h
 clear hf
 have hb0 : bareB x (!false) (!false) (!true) (decide (x.kind = 15)) (!true) = bareB x true true false false false := by
  rw [dFz (by omega)]; rfl
 clear hk
 rw [← hb0] at h
 cases c0 : bareB x (!false) (!false) (!true) (decide (x.kind = 15)) (!true) with
 | false =>
   rw [c0, Bool.false_and] at h
   exact mfits_1
 | true =>
   rw [c0, Bool.true_and] at h
   cases c1 : shiftsB x with
   | false =>
     exact mfits_11
   | true =>
     exact mfits_11
theorem mfits_2 {p : Prop} (h : p := by
 rw [c1, Bool.false_and] at h
 subst h
 go_enter Tryz.func205, Tryz.ntmps205
 go_wp2_with (first | (go_at_call 220; (with_reducible refine (nothing_calls x A c _ _ _ _ _ _ c0).mono ?_); rintro e w1 ⟨rfl, hb1⟩; obtain ⟨k0, k1, k2, k3, k4, k5, k6, k7⟩ := (RB _).keep hb1; have HR1 := Az.mk (HR.out.up (up_trans (up_alloc (up_alloc (up_refl _) _) _) hb1))) | (go_at_call 223; (with_reducible refine (one_calls x A c _ _ c1).mono ?_); rintro e w2 ⟨rfl, hb2⟩; obtain ⟨k0, k1, k2, k3, k4, k5, k6, k7⟩ := (((RB _).keep hb1).keep hb2); have HR2 := Az.mk (HR.out.up (up_trans (up_trans (up_alloc (up_alloc (up_refl _) _) _) hb1) hb2))))
 go_ret
 exact ⟨rfl, (up_trans (up_trans (up_alloc (up_alloc (up_refl _) _) _) hb1) hb2)⟩) : p := h
theorem mfits_5 {p : Prop} (h : p := by
 rw [c2] at h
 subst h
 go_enter Tryz.func205, Tryz.ntmps205
 go_wp2_with (first | (go_at_call 220; (with_reducible refine (nothing_calls x A c _ _ _ _ _ _ c0).mono ?_); rintro e w1 ⟨rfl, hb1⟩; obtain ⟨k0, k1, k2, k3, k4, k5, k6, k7⟩ := (RB _).keep hb1; have HR1 := Az.mk (HR.out.up (up_trans (up_alloc (up_alloc (up_refl _) _) _) hb1))) | (go_at_call 223; (with_reducible refine (one_calls x A c _ _ c1).mono ?_); rintro e w2 ⟨rfl, hb2⟩; obtain ⟨k0, k1, k2, k3, k4, k5, k6, k7⟩ := (((RB _).keep hb1).keep hb2); have HR2 := Az.mk (HR.out.up (up_trans (up_trans (up_alloc (up_alloc (up_refl _) _) _) hb1) hb2))) | (go_at_call 221; (with_reducible refine (sound_calls x A c 0 24 _ _ HR2.out hl c2).mono ?_); rintro e w3 ⟨rfl, hb3⟩; obtain ⟨k0, k1, k2, k3, k4, k5, k6, k7⟩ := ((((RB _).keep hb1).keep hb2).keep hb3); have HR3 := Az.mk (HR.out.up (up_trans (up_trans (up_trans (up_alloc (up_alloc (up_refl _) _) _) hb1) hb2) hb3))))
 go_ret
 exact ⟨rfl, (up_trans (up_trans (up_trans (up_alloc (up_alloc (up_refl _) _) _) hb1) hb2) hb3)⟩) : p := h
theorem fits_5 (x : Rec) (hk : x.kind = 5) (A : Option Addr) (c : Nat) (b : Bool) (w : World) (hr : Ints .i32 w A x.to) (hl : x.to.length < 4611686018427387904) (hu : x.weight < 18446744073709551616) (h : fitsB x = b) : Calls Tryz.prog 205 #[recV x A c] w fun e w' => e = .returned (.bool b) ∧ Up w w' := by
 have hu96 := Tryz.underlying113
 have hu215 := Tryz.underlying238
 have RB := fun o => (recBox_new w x A c).keep (up_alloc (up_refl _) o)
 have HR := Az.mk hr
 clear hr
 have e3 : (x.kind == 3) = false := bqf (by omega)
 have e4 : (x.kind == 4) = false := bqf (by omega)
 have e5 : (x.kind == 5) = true := beq_iff_eq.mpr hk
 have hf : fitsB x = (bareB x false true false false false && (oneB x && (listB x.to 0 24))) := by
  unfold fitsB; simp only [hk]; rfl
 rw [hf] at h
 clear hf
 have hb0 : bareB x (!true) (!false) (!true) (decide (x.kind = 15)) (!true) = bareB x false true false false false := by
  rw [dFz (by omega)]; rfl
 clear hk
 rw [← hb0] at h
 cases c0 : bareB x (!true) (!false) (!true) (decide (x.kind = 15)) (!true) with
 | false =>
   rw [c0, Bool.false_and] at h
   exact mfits_1
 | true =>
   rw [c0, Bool.true_and] at h
   cases c1 : oneB x with
   | false =>
     exact mfits_2
   | true =>
     rw [c1, Bool.true_and] at h
     cases c2 : listB x.to 0 24 with
     | false =>
       exact mfits_5
     | true =>
       exact mfits_5
theorem mfits_12 {p : Prop} (h : p := by
 rw [c1] at h
 subst h
 go_enter Tryz.func205, Tryz.ntmps205
 go_wp2_with (first | (go_at_call 220; (with_reducible refine (nothing_calls x A c _ _ _ _ _ _ c0).mono ?_); rintro e w1 ⟨rfl, hb1⟩; obtain ⟨k0, k1, k2, k3, k4, k5, k6, k7⟩ := (RB _).keep hb1; have HR1 := Az.mk (HR.out.up (up_trans (up_alloc (up_alloc (up_refl _) _) _) hb1))) | (go_at_call 224; (with_reducible refine (between_calls x A c 1 254 _ _ c1).mono ?_); rintro e w2 ⟨rfl, hb2⟩; obtain ⟨k0, k1, k2, k3, k4, k5, k6, k7⟩ := (((RB _).keep hb1).keep hb2); have HR2 := Az.mk (HR.out.up (up_trans (up_trans (up_alloc (up_alloc (up_refl _) _) _) hb1) hb2))))
 go_ret
 exact ⟨rfl, (up_trans (up_trans (up_alloc (up_alloc (up_refl _) _) _) hb1) hb2)⟩) : p := h
theorem fits_6 (x : Rec) (hk : x.kind = 6) (A : Option Addr) (c : Nat) (b : Bool) (w : World) (hr : Ints .i32 w A x.to) (hl : x.to.length < 4611686018427387904) (hu : x.weight < 18446744073709551616) (h : fitsB x = b) : Calls Tryz.prog 205 #[recV x A c] w fun e w' => e = .returned (.bool b) ∧ Up w w' := by
 have hu96 := Tryz.underlying113
 have hu215 := Tryz.underlying238
 have RB := fun o => (recBox_new w x A c).keep (up_alloc (up_refl _) o)
 have HR := Az.mk hr
 clear hr
 have e3 : (x.kind == 3) = false := bqf (by omega)
 have e4 : (x.kind == 4) = false := bqf (by omega)
 have e5 : (x.kind == 5) = false := bqf (by omega)
 have e6 : (x.kind == 6) = true := beq_iff_eq.mpr hk
 have hf : fitsB x = (bareB x true false false false false && ((decide (1 ≤ x.n) && decide (x.n ≤ 254)))) := by
  unfold fitsB; simp only [hk]; rfl
 rw [hf] at h
 clear hf
 have hb0 : bareB x (!false) (!true) (!true) (decide (x.kind = 15)) (!true) = bareB x true false false false false := by
  rw [dFz (by omega)]; rfl
 clear hk
 rw [← hb0] at h
 cases c0 : bareB x (!false) (!true) (!true) (decide (x.kind = 15)) (!true) with
 | false =>
   rw [c0, Bool.false_and] at h
   exact mfits_1
 | true =>
   rw [c0, Bool.true_and] at h
   cases c1 : (decide (1 ≤ x.n) && decide (x.n ≤ 254)) with
   | false =>
     exact mfits_12
   | true =>
     exact mfits_12
theorem mfits_7 {p : Prop} (h : p := by
 rw [c2] at h
 subst h
 go_enter Tryz.func205, Tryz.ntmps205
 go_wp2_with (first | (go_at_call 220; (with_reducible refine (nothing_calls x A c _ _ _ _ _ _ c0).mono ?_); rintro e w1 ⟨rfl, hb1⟩; obtain ⟨k0, k1, k2, k3, k4, k5, k6, k7⟩ := (RB _).keep hb1; have HR1 := Az.mk (HR.out.up (up_trans (up_alloc (up_alloc (up_refl _) _) _) hb1))) | (go_at_call 223; (with_reducible refine (one_calls x A c _ _ c1).mono ?_); rintro e w2 ⟨rfl, hb2⟩; obtain ⟨k0, k1, k2, k3, k4, k5, k6, k7⟩ := (((RB _).keep hb1).keep hb2); have HR2 := Az.mk (HR.out.up (up_trans (up_trans (up_alloc (up_alloc (up_refl _) _) _) hb1) hb2))) | (go_at_call 221; (with_reducible refine (sound_calls x A c 2 2 _ _ HR2.out hl c2).mono ?_); rintro e w3 ⟨rfl, hb3⟩; obtain ⟨k0, k1, k2, k3, k4, k5, k6, k7⟩ := ((((RB _).keep hb1).keep hb2).keep hb3); have HR3 := Az.mk (HR.out.up (up_trans (up_trans (up_trans (up_alloc (up_alloc (up_refl _) _) _) hb1) hb2) hb3))))
 go_ret
 exact ⟨rfl, (up_trans (up_trans (up_trans (up_alloc (up_alloc (up_refl _) _) _) hb1) hb2) hb3)⟩) : p := h
theorem fits_7 (x : Rec) (hk : x.kind = 7) (A : Option Addr) (c : Nat) (b : Bool) (w : World) (hr : Ints .i32 w A x.to) (hl : x.to.length < 4611686018427387904) (hu : x.weight < 18446744073709551616) (h : fitsB x = b) : Calls Tryz.prog 205 #[recV x A c] w fun e w' => e = .returned (.bool b) ∧ Up w w' := by
 have hu96 := Tryz.underlying113
 have hu215 := Tryz.underlying238
 have RB := fun o => (recBox_new w x A c).keep (up_alloc (up_refl _) o)
 have HR := Az.mk hr
 clear hr
 have e3 : (x.kind == 3) = false := bqf (by omega)
 have e4 : (x.kind == 4) = false := bqf (by omega)
 have e5 : (x.kind == 5) = false := bqf (by omega)
 have e6 : (x.kind == 6) = false := bqf (by omega)
 have e7 : (x.kind == 7) = true := beq_iff_eq.mpr hk
 have hf : fitsB x = (bareB x false true false false false && (oneB x && (listB x.to 2 2))) := by
  unfold fitsB; simp only [hk]; rfl
 rw [hf] at h
 clear hf
 have hb0 : bareB x (!true) (!false) (!true) (decide (x.kind = 15)) (!true) = bareB x false true false false false := by
  rw [dFz (by omega)]; rfl
 clear hk
 rw [← hb0] at h
 cases c0 : bareB x (!true) (!false) (!true) (decide (x.kind = 15)) (!true) with
 | false =>
   rw [c0, Bool.false_and] at h
   exact mfits_1
 | true =>
   rw [c0, Bool.true_and] at h
   cases c1 : oneB x with
   | false =>
     exact mfits_2
   | true =>
     rw [c1, Bool.true_and] at h
     cases c2 : listB x.to 2 2 with
     | false =>
       exact mfits_7
     | true =>
       exact mfits_7
theorem mfits_8 {p : Prop} (h : p := by
 rw [c2] at h
 subst h
 go_enter Tryz.func205, Tryz.ntmps205
 go_wp2_with (first | (go_at_call 220; (with_reducible refine (nothing_calls x A c _ _ _ _ _ _ c0).mono ?_); rintro e w1 ⟨rfl, hb1⟩; obtain ⟨k0, k1, k2, k3, k4, k5, k6, k7⟩ := (RB _).keep hb1; have HR1 := Az.mk (HR.out.up (up_trans (up_alloc (up_alloc (up_refl _) _) _) hb1))) | (go_at_call 223; (with_reducible refine (one_calls x A c _ _ c1).mono ?_); rintro e w2 ⟨rfl, hb2⟩; obtain ⟨k0, k1, k2, k3, k4, k5, k6, k7⟩ := (((RB _).keep hb1).keep hb2); have HR2 := Az.mk (HR.out.up (up_trans (up_trans (up_alloc (up_alloc (up_refl _) _) _) hb1) hb2))) | (go_at_call 221; (with_reducible refine (sound_calls x A c 1 2 _ _ HR2.out hl c2).mono ?_); rintro e w3 ⟨rfl, hb3⟩; obtain ⟨k0, k1, k2, k3, k4, k5, k6, k7⟩ := ((((RB _).keep hb1).keep hb2).keep hb3); have HR3 := Az.mk (HR.out.up (up_trans (up_trans (up_trans (up_alloc (up_alloc (up_refl _) _) _) hb1) hb2) hb3))))
 go_ret
 exact ⟨rfl, (up_trans (up_trans (up_trans (up_alloc (up_alloc (up_refl _) _) _) hb1) hb2) hb3)⟩) : p := h
theorem fits_8 (x : Rec) (hk : x.kind = 8) (A : Option Addr) (c : Nat) (b : Bool) (w : World) (hr : Ints .i32 w A x.to) (hl : x.to.length < 4611686018427387904) (hu : x.weight < 18446744073709551616) (h : fitsB x = b) : Calls Tryz.prog 205 #[recV x A c] w fun e w' => e = .returned (.bool b) ∧ Up w w' := by
 have hu96 := Tryz.underlying113
 have hu215 := Tryz.underlying238
 have RB := fun o => (recBox_new w x A c).keep (up_alloc (up_refl _) o)
 have HR := Az.mk hr
 clear hr
 have e3 : (x.kind == 3) = false := bqf (by omega)
 have e4 : (x.kind == 4) = false := bqf (by omega)
 have e5 : (x.kind == 5) = false := bqf (by omega)
 have e6 : (x.kind == 6) = false := bqf (by omega)
 have e7 : (x.kind == 7) = false := bqf (by omega)
 have e8 : (x.kind == 8) = true := beq_iff_eq.mpr hk
 have hf : fitsB x = (bareB x false true false false false && (oneB x && (listB x.to 1 2))) := by
  unfold fitsB; simp only [hk]; rfl
 rw [hf] at h
 clear hf
 have hb0 : bareB x (!true) (!false) (!true) (decide (x.kind = 15)) (!true) = bareB x false true false false false := by
  rw [dFz (by omega)]; rfl
 clear hk
 rw [← hb0] at h
 cases c0 : bareB x (!true) (!false) (!true) (decide (x.kind = 15)) (!true) with
 | false =>
   rw [c0, Bool.false_and] at h
   exact mfits_1
 | true =>
   rw [c0, Bool.true_and] at h
   cases c1 : oneB x with
   | false =>
     exact mfits_2
   | true =>
     rw [c1, Bool.true_and] at h
     cases c2 : listB x.to 1 2 with
     | false =>
       exact mfits_8
     | true =>
       exact mfits_8
theorem mfits_13 {p : Prop} (h : p := by
 rw [c1] at h
 subst h
 go_enter Tryz.func205, Tryz.ntmps205
 go_wp2_with (first | (go_at_call 220; (with_reducible refine (nothing_calls x A c _ _ _ _ _ _ c0).mono ?_); rintro e w1 ⟨rfl, hb1⟩; obtain ⟨k0, k1, k2, k3, k4, k5, k6, k7⟩ := (RB _).keep hb1; have HR1 := Az.mk (HR.out.up (up_trans (up_alloc (up_alloc (up_refl _) _) _) hb1))) | (go_at_call 224; (with_reducible refine (between_calls x A c 0 10 _ _ c1).mono ?_); rintro e w2 ⟨rfl, hb2⟩; obtain ⟨k0, k1, k2, k3, k4, k5, k6, k7⟩ := (((RB _).keep hb1).keep hb2); have HR2 := Az.mk (HR.out.up (up_trans (up_trans (up_alloc (up_alloc (up_refl _) _) _) hb1) hb2))))
 go_ret
 exact ⟨rfl, (up_trans (up_trans (up_alloc (up_alloc (up_refl _) _) _) hb1) hb2)⟩) : p := h
theorem fits_9 (x : Rec) (hk : x.kind = 9) (A : Option Addr) (c : Nat) (b : Bool) (w : World) (hr : Ints .i32 w A x.to) (hl : x.to.length < 4611686018427387904) (hu : x.weight < 18446744073709551616) (h : fitsB x = b) : Calls Tryz.prog 205 #[recV x A c] w fun e w' => e = .returned (.bool b) ∧ Up w w' := by
 have hu96 := Tryz.underlying113
 have hu215 := Tryz.underlying238
 have RB := fun o => (recBox_new w x A c).keep (up_alloc (up_refl _) o)
 have HR := Az.mk hr
 clear hr
 have e3 : (x.kind == 3) = false := bqf (by omega)
 have e4 : (x.kind == 4) = false := bqf (by omega)
 have e5 : (x.kind == 5) = false := bqf (by omega)
 have e6 : (x.kind == 6) = false := bqf (by omega)
 have e7 : (x.kind == 7) = false := bqf (by omega)
 have e8 : (x.kind == 8) = false := bqf (by omega)
 have e9 : (x.kind == 9) = true := beq_iff_eq.mpr hk
 have hf : fitsB x = (bareB x true false false false false && ((decide (0 ≤ x.n) && decide (x.n ≤ 10)))) := by
  unfold fitsB; simp only [hk]; rfl
 rw [hf] at h
 clear hf
 have hb0 : bareB x (!false) (!true) (!true) (decide (x.kind = 15)) (!true) = bareB x true false false false false := by
  rw [dFz (by omega)]; rfl
 clear hk
 rw [← hb0] at h
 cases c0 : bareB x (!false) (!true) (!true) (decide (x.kind = 15)) (!true) with
 | false =>
   rw [c0, Bool.false_and] at h
   exact mfits_1
 | true =>
   rw [c0, Bool.true_and] at h
   cases c1 : (decide (0 ≤ x.n) && decide (x.n ≤ 10)) with
   | false =>
     exact mfits_13
   | true =>
     exact mfits_13
theorem mfits_14 {p : Prop} (h : p := by
 rw [c1] at h
 subst h
 go_enter Tryz.func205, Tryz.ntmps205
 go_wp2_with (first | (go_at_call 220; (with_reducible refine (nothing_calls x A c _ _ _ _ _ _ c0).mono ?_); rintro e w1 ⟨rfl, hb1⟩; obtain ⟨k0, k1, k2, k3, k4, k5, k6, k7⟩ := (RB _).keep hb1; have HR1 := Az.mk (HR.out.up (up_trans (up_alloc (up_alloc (up_refl _) _) _) hb1))) | (go_at_call 224; (with_reducible refine (between_calls x A c 0 5 _ _ c1).mono ?_); rintro e w2 ⟨rfl, hb2⟩; obtain ⟨k0, k1, k2, k3, k4, k5, k6, k7⟩ := (((RB _).keep hb1).keep hb2); have HR2 := Az.mk (HR.out.up (up_trans (up_trans (up_alloc (up_alloc (up_refl _) _) _) hb1) hb2))))
 go_ret
 exact ⟨rfl, (up_trans (up_trans (up_alloc (up_alloc (up_refl _) _) _) hb1) hb2)⟩) : p := h
theorem fits_10 (x : Rec) (hk : x.kind = 10) (A : Option Addr) (c : Nat) (b : Bool) (w : World) (hr : Ints .i32 w A x.to) (hl : x.to.length < 4611686018427387904) (hu : x.weight < 18446744073709551616) (h : fitsB x = b) : Calls Tryz.prog 205 #[recV x A c] w fun e w' => e = .returned (.bool b) ∧ Up w w' := by
 have hu96 := Tryz.underlying113
 have hu215 := Tryz.underlying238
 have RB := fun o => (recBox_new w x A c).keep (up_alloc (up_refl _) o)
 have HR := Az.mk hr
 clear hr
 have e3 : (x.kind == 3) = false := bqf (by omega)
 have e4 : (x.kind == 4) = false := bqf (by omega)
 have e5 : (x.kind == 5) = false := bqf (by omega)
 have e6 : (x.kind == 6) = false := bqf (by omega)
 have e7 : (x.kind == 7) = false := bqf (by omega)
 have e8 : (x.kind == 8) = false := bqf (by omega)
 have e9 : (x.kind == 9) = false := bqf (by omega)
 have e10 : (x.kind == 10) = true := beq_iff_eq.mpr hk
 have hf : fitsB x = (bareB x true false false false false && ((decide (0 ≤ x.n) && decide (x.n ≤ 5)))) := by
  unfold fitsB; simp only [hk]; rfl
 rw [hf] at h
 clear hf
 have hb0 : bareB x (!false) (!true) (!true) (decide (x.kind = 15)) (!true) = bareB x true false false false false := by
  rw [dFz (by omega)]; rfl
 clear hk
 rw [← hb0] at h
 cases c0 : bareB x (!false) (!true) (!true) (decide (x.kind = 15)) (!true) with
 | false =>
   rw [c0, Bool.false_and] at h
   exact mfits_1
 | true =>
   rw [c0, Bool.true_and] at h
   cases c1 : (decide (0 ≤ x.n) && decide (x.n ≤ 5)) with
   | false =>
     exact mfits_14
   | true =>
     exact mfits_14
theorem mfits_3 {p : Prop} (h : p := by
 subst h
 go_enter Tryz.func205, Tryz.ntmps205
 go_wp2_with (first | (go_at_call 220; (with_reducible refine (nothing_calls x A c _ _ _ _ _ _ c0).mono ?_); rintro e w1 ⟨rfl, hb1⟩; obtain ⟨k0, k1, k2, k3, k4, k5, k6, k7⟩ := (RB _).keep hb1; have HR1 := Az.mk (HR.out.up (up_trans (up_alloc (up_alloc (up_refl _) _) _) hb1))) | (go_at_call 225; (with_reducible refine (Name_calls x.name _ _ c1).mono ?_); rintro e w2 ⟨rfl, hb2⟩; obtain ⟨k0, k1, k2, k3, k4, k5, k6, k7⟩ := (((RB _).keep hb1).keep hb2); have HR2 := Az.mk (HR.out.up (up_trans (up_trans (up_alloc (up_alloc (up_refl _) _) _) hb1) hb2))))
 go_ret
 exact ⟨rfl, (up_trans (up_trans (up_alloc (up_alloc (up_refl _) _) _) hb1) hb2)⟩) : p := h
theorem fits_12 (x : Rec) (hk : x.kind = 12) (A : Option Addr) (c : Nat) (b : Bool) (w : World) (hr : Ints .i32 w A x.to) (hl : x.to.length < 4611686018427387904) (hu : x.weight < 18446744073709551616) (h : fitsB x = b) : Calls Tryz.prog 205 #[recV x A c] w fun e w' => e = .returned (.bool b) ∧ Up w w' := by
 have hu96 := Tryz.underlying113
 have hu215 := Tryz.underlying238
 have RB := fun o => (recBox_new w x A c).keep (up_alloc (up_refl _) o)
 have HR := Az.mk hr
 clear hr
 have e3 : (x.kind == 3) = false := bqf (by omega)
 have e4 : (x.kind == 4) = false := bqf (by omega)
 have e5 : (x.kind == 5) = false := bqf (by omega)
 have e6 : (x.kind == 6) = false := bqf (by omega)
 have e7 : (x.kind == 7) = false := bqf (by omega)
 have e8 : (x.kind == 8) = false := bqf (by omega)
 have e9 : (x.kind == 9) = false := bqf (by omega)
 have e10 : (x.kind == 10) = false := bqf (by omega)
 have e12 : (x.kind == 12) = true := beq_iff_eq.mpr hk
 have hf : fitsB x = (bareB x false false true false false && (nameB x.name)) := by
  unfold fitsB; simp only [hk]; rfl
 rw [hf] at h
 clear hf
 have hb0 : bareB x (!true) (!true) (!false) (decide (x.kind = 15)) (!true) = bareB x false false true false false := by
  rw [dFz (by omega)]; rfl
 clear hk
 rw [← hb0] at h
 cases c0 : bareB x (!true) (!true) (!false) (decide (x.kind = 15)) (!true) with
 | false =>
   rw [c0, Bool.false_and] at h
   exact mfits_1
 | true =>
   rw [c0, Bool.true_and] at h
   cases c1 : nameB x.name with
   | false =>
     rw [c1] at h
     exact mfits_3
   | true =>
     rw [c1] at h
     exact mfits_3
theorem mfits_6 {p : Prop} (h : p := by
 rw [c2] at h
 subst h
 go_enter Tryz.func205, Tryz.ntmps205
 go_wp2_with (first | (go_at_call 220; (with_reducible refine (nothing_calls x A c _ _ _ _ _ _ c0).mono ?_); rintro e w1 ⟨rfl, hb1⟩; obtain ⟨k0, k1, k2, k3, k4, k5, k6, k7⟩ := (RB _).keep hb1; have HR1 := Az.mk (HR.out.up (up_trans (up_alloc (up_alloc (up_refl _) _) _) hb1))) | (go_at_call 223; (with_reducible refine (one_calls x A c _ _ c1).mono ?_); rintro e w2 ⟨rfl, hb2⟩; obtain ⟨k0, k1, k2, k3, k4, k5, k6, k7⟩ := (((RB _).keep hb1).keep hb2); have HR2 := Az.mk (HR.out.up (up_trans (up_trans (up_alloc (up_alloc (up_refl _) _) _) hb1) hb2))) | (go_at_call 221; (with_reducible refine (sound_calls x A c 1 24 _ _ HR2.out hl c2).mono ?_); rintro e w3 ⟨rfl, hb3⟩; obtain ⟨k0, k1, k2, k3, k4, k5, k6, k7⟩ := ((((RB _).keep hb1).keep hb2).keep hb3); have HR3 := Az.mk (HR.out.up (up_trans (up_trans (up_trans (up_alloc (up_alloc (up_refl _) _) _) hb1) hb2) hb3))))
 go_ret
 exact ⟨rfl, (up_trans (up_trans (up_trans (up_alloc (up_alloc (up_refl _) _) _) hb1) hb2) hb3)⟩) : p := h
theorem fits_13 (x : Rec) (hk : x.kind = 13) (A : Option Addr) (c : Nat) (b : Bool) (w : World) (hr : Ints .i32 w A x.to) (hl : x.to.length < 4611686018427387904) (hu : x.weight < 18446744073709551616) (h : fitsB x = b) : Calls Tryz.prog 205 #[recV x A c] w fun e w' => e = .returned (.bool b) ∧ Up w w' := by
 have hu96 := Tryz.underlying113
 have hu215 := Tryz.underlying238
 have RB := fun o => (recBox_new w x A c).keep (up_alloc (up_refl _) o)
 have HR := Az.mk hr
 clear hr
 have e3 : (x.kind == 3) = false := bqf (by omega)
 have e4 : (x.kind == 4) = false := bqf (by omega)
 have e5 : (x.kind == 5) = false := bqf (by omega)
 have e6 : (x.kind == 6) = false := bqf (by omega)
 have e7 : (x.kind == 7) = false := bqf (by omega)
 have e8 : (x.kind == 8) = false := bqf (by omega)
 have e9 : (x.kind == 9) = false := bqf (by omega)
 have e10 : (x.kind == 10) = false := bqf (by omega)
 have e12 : (x.kind == 12) = false := bqf (by omega)
 have e13 : (x.kind == 13) = true := beq_iff_eq.mpr hk
 have hf : fitsB x = (bareB x false true false false false && (oneB x && (listB x.to 1 24))) := by
  unfold fitsB; simp only [hk]; rfl
 rw [hf] at h
 clear hf
 have hb0 : bareB x (!true) (!false) (!true) (decide (x.kind = 15)) (!true) = bareB x false true false false false := by
  rw [dFz (by omega)]; rfl
 clear hk
 rw [← hb0] at h
 cases c0 : bareB x (!true) (!false) (!true) (decide (x.kind = 15)) (!true) with
 | false =>
   rw [c0, Bool.false_and] at h
   exact mfits_1
 | true =>
   rw [c0, Bool.true_and] at h
   cases c1 : oneB x with
   | false =>
     exact mfits_2
   | true =>
     rw [c1, Bool.true_and] at h
     cases c2 : listB x.to 1 24 with
     | false =>
       exact mfits_6
     | true =>
       exact mfits_6
theorem mfits_15 {p : Prop} (h : p := by
 rw [c1] at h
 subst h
 go_enter Tryz.func205, Tryz.ntmps205
 go_wp2_with (first | (go_at_call 220; (with_reducible refine (nothing_calls x A c _ _ _ _ _ _ c0).mono ?_); rintro e w1 ⟨rfl, hb1⟩; obtain ⟨k0, k1, k2, k3, k4, k5, k6, k7⟩ := (RB _).keep hb1; have HR1 := Az.mk (HR.out.up (up_trans (up_alloc (up_alloc (up_refl _) _) _) hb1))) | (go_at_call 226; (with_reducible refine (weighs_calls x A c _ _ hu c1).mono ?_); rintro e w2 ⟨rfl, hb2⟩; obtain ⟨k0, k1, k2, k3, k4, k5, k6, k7⟩ := (((RB _).keep hb1).keep hb2); have HR2 := Az.mk (HR.out.up (up_trans (up_trans (up_alloc (up_alloc (up_refl _) _) _) hb1) hb2))))
 go_ret
 exact ⟨rfl, (up_trans (up_trans (up_alloc (up_alloc (up_refl _) _) _) hb1) hb2)⟩) : p := h
theorem fits_14 (x : Rec) (hk : x.kind = 14) (A : Option Addr) (c : Nat) (b : Bool) (w : World) (hr : Ints .i32 w A x.to) (hl : x.to.length < 4611686018427387904) (hu : x.weight < 18446744073709551616) (h : fitsB x = b) : Calls Tryz.prog 205 #[recV x A c] w fun e w' => e = .returned (.bool b) ∧ Up w w' := by
 have hu96 := Tryz.underlying113
 have hu215 := Tryz.underlying238
 have RB := fun o => (recBox_new w x A c).keep (up_alloc (up_refl _) o)
 have HR := Az.mk hr
 clear hr
 have e3 : (x.kind == 3) = false := bqf (by omega)
 have e4 : (x.kind == 4) = false := bqf (by omega)
 have e5 : (x.kind == 5) = false := bqf (by omega)
 have e6 : (x.kind == 6) = false := bqf (by omega)
 have e7 : (x.kind == 7) = false := bqf (by omega)
 have e8 : (x.kind == 8) = false := bqf (by omega)
 have e9 : (x.kind == 9) = false := bqf (by omega)
 have e10 : (x.kind == 10) = false := bqf (by omega)
 have e12 : (x.kind == 12) = false := bqf (by omega)
 have e13 : (x.kind == 13) = false := bqf (by omega)
 have e14 : (x.kind == 14) = true := beq_iff_eq.mpr hk
 have hf : fitsB x = (bareB x false false false false true && (weightB x.weight)) := by
  unfold fitsB; simp only [hk]; rfl
 rw [hf] at h
 clear hf
 have hb0 : bareB x (!true) (!true) (!true) (decide (x.kind = 15)) (!false) = bareB x false false false false true := by
  rw [dFz (by omega)]; rfl
 clear hk
 rw [← hb0] at h
 cases c0 : bareB x (!true) (!true) (!true) (decide (x.kind = 15)) (!false) with
 | false =>
   rw [c0, Bool.false_and] at h
   exact mfits_1
 | true =>
   rw [c0, Bool.true_and] at h
   cases c1 : weightB x.weight with
   | false =>
     exact mfits_15
   | true =>
     exact mfits_15
theorem mfits_4 {p : Prop} (h : p := by
 rw [c4] at h
 subst h
 go_enter Tryz.func205, Tryz.ntmps205
 go_wp2_with (first | (go_at_call 220; (with_reducible refine (nothing_calls x A c _ _ _ _ _ _ c0).mono ?_); rintro e w1 ⟨rfl, hb1⟩; obtain ⟨k0, k1, k2, k3, k4, k5, k6, k7⟩ := (RB _).keep hb1; have HR1 := Az.mk (HR.out.up (up_trans (up_alloc (up_alloc (up_refl _) _) _) hb1))) | (go_at_call 225; (with_reducible refine (Name_calls x.name _ _ c1).mono ?_); rintro e w2 ⟨rfl, hb2⟩; obtain ⟨k0, k1, k2, k3, k4, k5, k6, k7⟩ := (((RB _).keep hb1).keep hb2); have HR2 := Az.mk (HR.out.up (up_trans (up_trans (up_alloc (up_alloc (up_refl _) _) _) hb1) hb2))) | (go_at_call 225; (with_reducible refine (Name_calls x.other _ _ c2).mono ?_); rintro e w3 ⟨rfl, hb3⟩; obtain ⟨k0, k1, k2, k3, k4, k5, k6, k7⟩ := ((((RB _).keep hb1).keep hb2).keep hb3); have HR3 := Az.mk (HR.out.up (up_trans (up_trans (up_trans (up_alloc (up_alloc (up_refl _) _) _) hb1) hb2) hb3))) | (go_at_call 226; (with_reducible refine (weighs_calls x A c _ _ hu c4).mono ?_); rintro e w4 ⟨rfl, hb4⟩; obtain ⟨k0, k1, k2, k3, k4, k5, k6, k7⟩ := (((((RB _).keep hb1).keep hb2).keep hb3).keep hb4); have HR4 := Az.mk (HR.out.up (up_trans (up_trans (up_trans (up_trans (up_alloc (up_alloc (up_refl _) _) _) hb1) hb2) hb3) hb4))))
 go_ret
 exact ⟨rfl, (up_trans (up_trans (up_trans (up_trans (up_alloc (up_alloc (up_refl _) _) _) hb1) hb2) hb3) hb4)⟩) : p := h
theorem mfits_9 {p : Prop} (h : p := by
 subst h
 go_enter Tryz.func205, Tryz.ntmps205
 go_wp2_with (first | (go_at_call 220; (with_reducible refine (nothing_calls x A c _ _ _ _ _ _ c0).mono ?_); rintro e w1 ⟨rfl, hb1⟩; obtain ⟨k0, k1, k2, k3, k4, k5, k6, k7⟩ := (RB _).keep hb1; have HR1 := Az.mk (HR.out.up (up_trans (up_alloc (up_alloc (up_refl _) _) _) hb1))) | (go_at_call 225; (with_reducible refine (Name_calls x.name _ _ c1).mono ?_); rintro e w2 ⟨rfl, hb2⟩; obtain ⟨k0, k1, k2, k3, k4, k5, k6, k7⟩ := (((RB _).keep hb1).keep hb2); have HR2 := Az.mk (HR.out.up (up_trans (up_trans (up_alloc (up_alloc (up_refl _) _) _) hb1) hb2))) | (go_at_call 225; (with_reducible refine (Name_calls x.other _ _ c2).mono ?_); rintro e w3 ⟨rfl, hb3⟩; obtain ⟨k0, k1, k2, k3, k4, k5, k6, k7⟩ := ((((RB _).keep hb1).keep hb2).keep hb3); have HR3 := Az.mk (HR.out.up (up_trans (up_trans (up_trans (up_alloc (up_alloc (up_refl _) _) _) hb1) hb2) hb3))))
 go_ret
 exact ⟨rfl, (up_trans (up_trans (up_trans (up_alloc (up_alloc (up_refl _) _) _) hb1) hb2) hb3)⟩) : p := h
theorem fits_15 (x : Rec) (hk : x.kind = 15) (A : Option Addr) (c : Nat) (b : Bool) (w : World) (hr : Ints .i32 w A x.to) (hl : x.to.length < 4611686018427387904) (hu : x.weight < 18446744073709551616) (h : fitsB x = b) : Calls Tryz.prog 205 #[recV x A c] w fun e w' => e = .returned (.bool b) ∧ Up w w' := by
 have hu96 := Tryz.underlying113
 have hu215 := Tryz.underlying238
 have RB := fun o => (recBox_new w x A c).keep (up_alloc (up_refl _) o)
 have HR := Az.mk hr
 clear hr
 have e3 : (x.kind == 3) = false := bqf (by omega)
 have e4 : (x.kind == 4) = false := bqf (by omega)
 have e5 : (x.kind == 5) = false := bqf (by omega)
 have e6 : (x.kind == 6) = false := bqf (by omega)
 have e7 : (x.kind == 7) = false := bqf (by omega)
 have e8 : (x.kind == 8) = false := bqf (by omega)
 have e9 : (x.kind == 9) = false := bqf (by omega)
 have e10 : (x.kind == 10) = false := bqf (by omega)
 have e12 : (x.kind == 12) = false := bqf (by omega)
 have e13 : (x.kind == 13) = false := bqf (by omega)
 have e14 : (x.kind == 14) = false := bqf (by omega)
 have e15 : (x.kind == 15) = true := beq_iff_eq.mpr hk
 have hf : fitsB x = (bareB x false false true true true && (nameB x.name && (nameB x.other && ((!(x.name.toList == x.other.toList)) && (weightB x.weight))))) := by
  unfold fitsB; simp only [hk]; rfl
 rw [hf] at h
 clear hf
 have hb0 : bareB x (!true) (!true) (!false) (decide (x.kind = 15)) (!false) = bareB x false false true true true := by
  rw [dTz hk]; rfl
 clear hk
 rw [← hb0] at h
 cases c0 : bareB x (!true) (!true) (!false) (decide (x.kind = 15)) (!false) with
 | false =>
   rw [c0, Bool.false_and] at h
   exact mfits_1
 | true =>
   rw [c0, Bool.true_and] at h
   cases c1 : nameB x.name with
   | false =>
     rw [c1, Bool.false_and] at h
     exact mfits_3
   | true =>
     rw [c1, Bool.true_and] at h
     cases c2 : nameB x.other with
     | false =>
       rw [c2, Bool.false_and] at h
       exact mfits_9
     | true =>
       rw [c2, Bool.true_and] at h
       cases c3 : (x.name.toList == x.other.toList) with
       | true =>
         rw [c3, Bool.not_true, Bool.false_and] at h
         exact mfits_9
       | false =>
         rw [c3, Bool.not_false, Bool.true_and] at h
         cases c4 : weightB x.weight with
         | false =>
           exact mfits_4
         | true =>
           exact mfits_4
theorem fits_0 (x : Rec) (hk : x.kind = 1 ∨ x.kind = 2 ∨ x.kind = 11) (A : Option Addr) (c : Nat) (b : Bool) (w : World) (hr : Ints .i32 w A x.to) (hl : x.to.length < 4611686018427387904) (hu : x.weight < 18446744073709551616) (h : fitsB x = b) : Calls Tryz.prog 205 #[recV x A c] w fun e w' => e = .returned (.bool b) ∧ Up w w' := by
 have hu96 := Tryz.underlying113
 have hu215 := Tryz.underlying238
 have RB := fun o => (recBox_new w x A c).keep (up_alloc (up_refl _) o)
 have HR := Az.mk hr
 clear hr
 have e3 : (x.kind == 3) = false := bqf (by omega)
 have e4 : (x.kind == 4) = false := bqf (by omega)
 have e5 : (x.kind == 5) = false := bqf (by omega)
 have e6 : (x.kind == 6) = false := bqf (by omega)
 have e7 : (x.kind == 7) = false := bqf (by omega)
 have e8 : (x.kind == 8) = false := bqf (by omega)
 have e9 : (x.kind == 9) = false := bqf (by omega)
 have e10 : (x.kind == 10) = false := bqf (by omega)
 have e12 : (x.kind == 12) = false := bqf (by omega)
 have e13 : (x.kind == 13) = false := bqf (by omega)
 have e14 : (x.kind == 14) = false := bqf (by omega)
 have e15 : (x.kind == 15) = false := bqf (by omega)
 have hf : fitsB x = (bareB x false false false false false) := by
  unfold fitsB; rcases hk with hk | hk | hk <;> simp only [hk] <;> rfl
 rw [hf] at h
 clear hf
 have hb0 : bareB x (!true) (!true) (!true) (decide (x.kind = 15)) (!true) = bareB x false false false false false := by
  rw [dFz (by omega)]; rfl
 clear hk
 rw [← hb0] at h
 cases c0 : bareB x (!true) (!true) (!true) (decide (x.kind = 15)) (!true) with
 | false =>
   rw [c0] at h
   exact mfits_1
 | true =>
   rw [c0] at h
   exact mfits_1
theorem fits_calls (x : Rec) (A : Option Addr) (c : Nat) (b : Bool) (w : World) (hr : Ints .i32 w A x.to) (hl : x.to.length < 4611686018427387904) (hu : x.weight < 18446744073709551616) (hk : 1 ≤ x.kind ∧ x.kind ≤ 15) (h : fitsB x = b) : Calls Tryz.prog 205 #[recV x A c] w fun e w' => e = .returned (.bool b) ∧ Up w w' := by
 have hc : x.kind = 1 ∨ x.kind = 2 ∨ x.kind = 11 ∨ x.kind = 3 ∨ x.kind = 4 ∨ x.kind = 5 ∨ x.kind = 6 ∨ x.kind = 7 ∨ x.kind = 8 ∨ x.kind = 9 ∨ x.kind = 10 ∨ x.kind = 12 ∨ x.kind = 13 ∨ x.kind = 14 ∨ x.kind = 15 := by omega
 rcases hc with hk | hk | hk | hk | hk | hk | hk | hk | hk | hk | hk | hk | hk | hk | hk
 ·exact fits_0 x (.inl hk) A c b w hr hl hu h
 ·exact fits_0 x (.inr (.inl hk)) A c b w hr hl hu h
 ·exact fits_0 x (.inr (.inr hk)) A c b w hr hl hu h
 ·exact fits_3 x hk A c b w hr hl hu h
 ·exact fits_4 x hk A c b w hr hl hu h
 ·exact fits_5 x hk A c b w hr hl hu h
 ·exact fits_6 x hk A c b w hr hl hu h
 ·exact fits_7 x hk A c b w hr hl hu h
 ·exact fits_8 x hk A c b w hr hl hu h
 ·exact fits_9 x hk A c b w hr hl hu h
 ·exact fits_10 x hk A c b w hr hl hu h
 ·exact fits_12 x hk A c b w hr hl hu h
 ·exact fits_13 x hk A c b w hr hl hu h
 ·exact fits_14 x hk A c b w hr hl hu h
 ·exact fits_15 x hk A c b w hr hl hu h
end Go.Proofs.YtnohcnneflogjaaGreat.M
