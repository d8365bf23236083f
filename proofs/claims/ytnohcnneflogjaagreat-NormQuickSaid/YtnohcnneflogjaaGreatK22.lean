/- What is wrong with a record, walked: the document's. (Printed by gen_rright.py, a program of mine.) -/
import Derived.Test.YtnohcnneflogjaaGreatK21
import Derived.Laws.BitsLemmas
set_option maxHeartbeats 16000000
set_option maxRecDepth 100000
set_option linter.unusedVariables false
set_option linter.unusedSimpArgs false
namespace Go.Proofs.YtnohcnneflogjaaGreat.M
open Go.RowKit
theorem i64_and21 (n : Int) : bits .and .i64 n 2097151 = n % 2097152 := by
 have h127 : (BitVec.ofInt 64 2097151).toNat = 2 ^ 21 - 1 := by decide
 have key : (BitVec.ofInt 64 n &&& BitVec.ofInt 64 2097151).toNat = (n % ((2 ^ 64 : Nat) : Int)).toNat % 2 ^ 21 := by
  rw [BitVec.toNat_and, BitVec.toNat_ofInt, h127, Nat.and_two_pow_sub_one_eq_mod]
 show IntKind.i64.wrap ((BitVec.ofInt 64 n &&& BitVec.ofInt 64 2097151).toNat : Nat) = n % 2097152
 rw [key, IntKind.wrap_i64]
 omega
theorem shift_bad (x : Rec) (h : listB x.to 1 1 = false) : shiftsB x = false := by
 cases hs : shiftsB x with
 | false => rfl
 | true =>
   simp only [shiftsB, Bool.and_eq_true, decide_eq_true_eq] at hs
   obtain ⟨_, ⟨h1, h2⟩, _⟩ := hs
   rw [← h]
   obtain ⟨a, ha⟩ := List.length_eq_one_iff.1 h1
   rw [ha] at h2 ⊢
   simp [listB, rd] at h2 ⊢
   exact h2
theorem shift_good (x : Rec) (p1 : 0 ≤ x.lo) (p2 : x.lo ≤ x.hi) (p3 : x.hi ≤ 1114111) (h : listB x.to 1 1 = true) : x.to.length = 1 ∧ validB (rd x.to 0) = true ∧
 shiftsB x = (decide (1 ≤ x.n) && decide (x.n ≤ 64) && (decide (rd x.to 0 + x.hi - x.lo ≤ 1114111) && (decide (rd x.to 0 + x.hi - x.lo < 55296) || decide (57343 < rd x.to 0)))) := by
 simp only [listB, Bool.and_eq_true, decide_eq_true_eq] at h
 obtain ⟨⟨h1, h2⟩, h3⟩ := h
 have h4 : x.to.length = 1 := by omega
 obtain ⟨a, ha⟩ := List.length_eq_one_iff.1 h4
 rw [ha] at h3 ⊢
 have h5 : validB a = true := by simpa using h3
 have hr : rd [a] 0 = a := rfl
 refine ⟨by simp, by rw [hr]; exact h5, ?_⟩
 unfold shiftsB
 rw [ha, hr, h5]
 have hv := h5
 simp [validB] at hv
 have e1 : wrap64 (x.hi - x.lo) = x.hi - x.lo := by unfold wrap64; omega
 have e2 : wrap32 (x.hi - x.lo) = x.hi - x.lo := by unfold wrap32; omega
 have e3 : wrap32 (a + (x.hi - x.lo)) = a + x.hi - x.lo := by unfold wrap32; omega
 rw [e1, e2, e3]
 have e4 : decide (([a] : List Int).length = 1) = true := by simp
 rw [e4]
 have hq : a ≤ a + x.hi - x.lo := by omega
 generalize a + x.hi - x.lo = q at hq
 congr 1
 have e5 : validB q = (decide (q ≤ 1114111) && (decide (q < 55296) || decide (57343 < q))) := by
  unfold validB
  rw [dTz (show 0 ≤ q by omega), Bool.true_and]
 rw [e5, Bool.true_and, Bool.true_and]
 by_cases h6 : q ≤ 1114111 <;> by_cases h7 : q < 55296 <;> by_cases h8 : 57343 < q <;> by_cases h9 : a < 55296 <;> by_cases h10 : 57343 < a <;> simp only [h6, h7, h8, h9, h10, decide_true, decide_false, Bool.true_and, Bool.false_and, Bool.true_or, Bool.or_true, Bool.false_or, Bool.or_false, BEq.beq] <;> first | rfl | omega
theorem mrright_5 {p : Prop} (h : p := by
 go_enter Tryz.func147, Tryz.ntmps147
 go_wp2_with (first | (go_at_call 149; (with_reducible refine (RFamily_calls x.kind _).mono ?_); rintro e w1 ⟨rfl, hb1⟩; replace RB := RB.keep hb1; have RC := RB; obtain ⟨k0, k1, k2, k3, k4, k5, k6, k7⟩ := RC; replace HU := up_trans HU hb1; replace HR := Az.mk (HR.out.up hb1)))
 all_goals go_ret
 all_goals exact ⟨rfl, HU⟩) : p := h
theorem rright_none (x : Rec) (hf : fam x.kind = 0) (A : Option Addr) (c : Nat) (r : Int) (w : World) (hr : Ints .i32 w A x.to) (hl : x.to.length < 4611686018427387904) (hu : x.weight < 18446744073709551616) (h : r = 60) :
 Calls Tryz.prog 147 #[recV x A c] w fun e w' => e = .returned (.int .i64 r) ∧ Up w w' := by
 have hu96 := Tryz.underlying113
 have RB := recBox_new w x A c
 have HU := up_alloc (up_refl w) (recO x A c)
 have HR := Az.mk (Cells.up hr HU)
 clear hr
 subst h
 have e0 : (fam x.kind == 0) = true := beq_iff_eq.mpr hf
 clear hf
 exact mrright_5
theorem rright_span (x : Rec) (hf : fam x.kind ≠ 0) (h15 : x.kind ≠ 15) (hs : spanB x = false) (A : Option Addr) (c : Nat) (r : Int) (w : World) (hr : Ints .i32 w A x.to) (hl : x.to.length < 4611686018427387904) (hu : x.weight < 18446744073709551616) (h : r = 61) :
 Calls Tryz.prog 147 #[recV x A c] w fun e w' => e = .returned (.int .i64 r) ∧ Up w w' := by
 have hu96 := Tryz.underlying113
 have RB := recBox_new w x A c
 have HU := up_alloc (up_refl w) (recO x A c)
 have HR := Az.mk (Cells.up hr HU)
 clear hr
 subst h
 have e0 : (fam x.kind == 0) = false := bqf hf
 have e15 : (x.kind == 15) = false := bqf h15
 clear hf h15
 unfold spanB at hs
 rcases span_cases x.lo x.hi with d1 | ⟨d1, d2⟩ | ⟨d1, d2, d3⟩ | ⟨d1, d2, d3⟩
 rotate_left 3
 ·rw [d1, d2, d3] at hs
  cases hs
 all_goals
  clear hs
  rcases Bool.eq_false_or_eq_true (x.lo == x.hi) with f1 | f1
  all_goals go_enter Tryz.func147, Tryz.ntmps147
  all_goals go_wp2_with ((first | (go_at_call 149; (with_reducible refine (RFamily_calls x.kind _).mono ?_)) | (go_at_call 178; (with_reducible refine (RValid_calls _ _ _ rfl).mono ?_))); rintro e w1 ⟨rfl, hb1⟩; replace RB := RB.keep hb1; have RC := RB; obtain ⟨k0, k1, k2, k3, k4, k5, k6, k7⟩ := RC; replace HU := up_trans HU hb1; replace HR := Az.mk (HR.out.up hb1))
  all_goals go_ret
  all_goals exact ⟨rfl, HU⟩
theorem mrright_2 {p : Prop} (h : p := by
 subst h
 rcases Bool.eq_false_or_eq_true (x.lo == x.hi) with f1 | f1
 all_goals
  go_enter Tryz.func147, Tryz.ntmps147
  go_wp2_with ((first | (go_at_call 149; (with_reducible refine (RFamily_calls x.kind _).mono ?_)) | (go_at_call 178; (with_reducible refine (RValid_calls _ _ _ rfl).mono ?_)) | (go_at_call 175; (with_reducible refine (bare_calls x A c false false false false false _ _ c0).mono ?_))); rintro e w1 ⟨rfl, hb1⟩; replace RB := RB.keep hb1; have RC := RB; obtain ⟨k0, k1, k2, k3, k4, k5, k6, k7⟩ := RC; replace HU := up_trans HU hb1; replace HR := Az.mk (HR.out.up hb1))
  all_goals go_ret
  all_goals exact ⟨rfl, HU⟩) : p := h
theorem mrright_17 {p : Prop} (h : p := by
 simp only [spanB, Bool.and_eq_true] at hs
 obtain ⟨⟨d1, d2⟩, d3⟩ := hs
 clear hk
 have p1 : 0 ≤ x.lo := of_decide_eq_true d1
 have p2 : x.lo ≤ x.hi := of_decide_eq_true d2
 have p3 : x.hi ≤ 1114111 := of_decide_eq_true d3
 cases c0 : bareB x false false false false false with
 | false =>
   simp only [c0, Bool.false_and, Bool.and_false, Bool.true_and, Bool.and_true, if_false, if_true, reduceCtorEq, Bool.false_eq_true] at h
   exact mrright_2
 | true =>
   simp only [c0, Bool.and_true, if_true] at h
   exact mrright_2) : p := h
theorem rright_1 (x : Rec) (hk : x.kind = 1) (hs : spanB x = true) (A : Option Addr) (c : Nat) (r : Int) (w : World) (hr : Ints .i32 w A x.to) (hl : x.to.length < 4611686018427387904) (hu : x.weight < 18446744073709551616) (h : (if fitsB x = true then 0 else 61) = r) :
 Calls Tryz.prog 147 #[recV x A c] w fun e w' => e = .returned (.int .i64 r) ∧ Up w w' := by
 have hu96 := Tryz.underlying113
 have RB := recBox_new w x A c
 have HU := up_alloc (up_refl w) (recO x A c)
 have HR := Az.mk (Cells.up hr HU)
 clear hr
 have hf : fitsB x = (bareB x false false false false false) := by
  unfold fitsB; simp only [hk]; rfl
 rw [hf] at h
 clear hf
 have e0 : (fam x.kind == 0) = false := bqf (by rw [hk]; decide)
 have e15 : (x.kind == 15) = false := bqf (by omega)
 have e1 : (x.kind == 1) = true := beq_iff_eq.mpr hk
 exact mrright_17
theorem rright_2 (x : Rec) (hk : x.kind = 2) (hs : spanB x = true) (A : Option Addr) (c : Nat) (r : Int) (w : World) (hr : Ints .i32 w A x.to) (hl : x.to.length < 4611686018427387904) (hu : x.weight < 18446744073709551616) (h : (if fitsB x = true then 0 else 61) = r) :
 Calls Tryz.prog 147 #[recV x A c] w fun e w' => e = .returned (.int .i64 r) ∧ Up w w' := by
 have hu96 := Tryz.underlying113
 have RB := recBox_new w x A c
 have HU := up_alloc (up_refl w) (recO x A c)
 have HR := Az.mk (Cells.up hr HU)
 clear hr
 have hf : fitsB x = (bareB x false false false false false) := by
  unfold fitsB; simp only [hk]; rfl
 rw [hf] at h
 clear hf
 have e0 : (fam x.kind == 0) = false := bqf (by rw [hk]; decide)
 have e15 : (x.kind == 15) = false := bqf (by omega)
 have e1 : (x.kind == 1) = false := bqf (by omega)
 have e2 : (x.kind == 2) = true := beq_iff_eq.mpr hk
 exact mrright_17
theorem rright_11 (x : Rec) (hk : x.kind = 11) (hs : spanB x = true) (A : Option Addr) (c : Nat) (r : Int) (w : World) (hr : Ints .i32 w A x.to) (hl : x.to.length < 4611686018427387904) (hu : x.weight < 18446744073709551616) (h : (if fitsB x = true then 0 else 61) = r) :
 Calls Tryz.prog 147 #[recV x A c] w fun e w' => e = .returned (.int .i64 r) ∧ Up w w' := by
 have hu96 := Tryz.underlying113
 have RB := recBox_new w x A c
 have HU := up_alloc (up_refl w) (recO x A c)
 have HR := Az.mk (Cells.up hr HU)
 clear hr
 have hf : fitsB x = (bareB x false false false false false) := by
  unfold fitsB; simp only [hk]; rfl
 rw [hf] at h
 clear hf
 have e0 : (fam x.kind == 0) = false := bqf (by rw [hk]; decide)
 have e15 : (x.kind == 15) = false := bqf (by omega)
 have e1 : (x.kind == 1) = false := bqf (by omega)
 have e2 : (x.kind == 2) = false := bqf (by omega)
 have e11 : (x.kind == 11) = true := beq_iff_eq.mpr hk
 exact mrright_17
theorem mrright_8 {p : Prop} (h : p := by
 simp only [c0, c1, Bool.false_and, Bool.and_false, Bool.true_and, Bool.and_true, if_false, if_true, reduceCtorEq, Bool.false_eq_true] at h
 subst h
 rcases Bool.eq_false_or_eq_true (x.lo == x.hi) with f1 | f1
 all_goals
  go_enter Tryz.func147, Tryz.ntmps147
  go_wp2_with ((first | (go_at_call 149; (with_reducible refine (RFamily_calls x.kind _).mono ?_)) | (go_at_call 178; (with_reducible refine (RValid_calls _ _ _ rfl).mono ?_)) | (go_at_call 175; (with_reducible refine (bare_calls x A c false true false false false _ _ c0).mono ?_)) | (go_at_call 179; (with_reducible refine (list_calls x.to A c 1 24 _ _ HR.out hl c1).mono ?_))); rintro e w1 ⟨rfl, hb1⟩; replace RB := RB.keep hb1; have RC := RB; obtain ⟨k0, k1, k2, k3, k4, k5, k6, k7⟩ := RC; replace HU := up_trans HU hb1; replace HR := Az.mk (HR.out.up hb1))
  all_goals go_ret
  all_goals exact ⟨rfl, HU⟩) : p := h
theorem rright_3 (x : Rec) (hk : x.kind = 3) (hs : spanB x = true) (A : Option Addr) (c : Nat) (r : Int) (w : World) (hr : Ints .i32 w A x.to) (hl : x.to.length < 4611686018427387904) (hu : x.weight < 18446744073709551616) (h : (if fitsB x = true then 0 else 61) = r) :
 Calls Tryz.prog 147 #[recV x A c] w fun e w' => e = .returned (.int .i64 r) ∧ Up w w' := by
 have hu96 := Tryz.underlying113
 have RB := recBox_new w x A c
 have HU := up_alloc (up_refl w) (recO x A c)
 have HR := Az.mk (Cells.up hr HU)
 clear hr
 have hf : fitsB x = (bareB x false true false false false && (listB x.to 1 24)) := by
  unfold fitsB; simp only [hk]; rfl
 rw [hf] at h
 clear hf
 have e0 : (fam x.kind == 0) = false := bqf (by rw [hk]; decide)
 have e15 : (x.kind == 15) = false := bqf (by omega)
 have e1 : (x.kind == 1) = false := bqf (by omega)
 have e2 : (x.kind == 2) = false := bqf (by omega)
 have e11 : (x.kind == 11) = false := bqf (by omega)
 have e3 : (x.kind == 3) = true := beq_iff_eq.mpr hk
 simp only [spanB, Bool.and_eq_true] at hs
 obtain ⟨⟨d1, d2⟩, d3⟩ := hs
 clear hk
 have p1 : 0 ≤ x.lo := of_decide_eq_true d1
 have p2 : x.lo ≤ x.hi := of_decide_eq_true d2
 have p3 : x.hi ≤ 1114111 := of_decide_eq_true d3
 cases c0 : bareB x false true false false false with
 | false =>
   simp only [c0, Bool.false_and, Bool.and_false, Bool.true_and, Bool.and_true, if_false, if_true, reduceCtorEq, Bool.false_eq_true] at h
   subst h
   rcases Bool.eq_false_or_eq_true (x.lo == x.hi) with f1 | f1
   all_goals
    go_enter Tryz.func147, Tryz.ntmps147
    go_wp2_with ((first | (go_at_call 149; (with_reducible refine (RFamily_calls x.kind _).mono ?_)) | (go_at_call 178; (with_reducible refine (RValid_calls _ _ _ rfl).mono ?_)) | (go_at_call 175; (with_reducible refine (bare_calls x A c false true false false false _ _ c0).mono ?_))); rintro e w1 ⟨rfl, hb1⟩; replace RB := RB.keep hb1; have RC := RB; obtain ⟨k0, k1, k2, k3, k4, k5, k6, k7⟩ := RC; replace HU := up_trans HU hb1; replace HR := Az.mk (HR.out.up hb1))
    all_goals go_ret
    all_goals exact ⟨rfl, HU⟩
 | true =>
   cases c1 : listB x.to 1 24 with
   | false =>
     exact mrright_8
   | true =>
     exact mrright_8
theorem mrright_3 {p : Prop} (h : p := by
 subst h
 rcases Bool.eq_false_or_eq_true (x.lo == x.hi) with f1 | f1
 all_goals go_enter Tryz.func147, Tryz.ntmps147
 all_goals go_wp2_with ((first | (go_at_call 149; (with_reducible refine (RFamily_calls x.kind _).mono ?_)) | (go_at_call 178; (with_reducible refine (RValid_calls _ _ _ rfl).mono ?_)) | (go_at_call 175; (with_reducible refine (bare_calls x _ c true true false false false _ _ c0).mono ?_)) | (go_at_call 179; (with_reducible refine (list_calls x.to _ c 1 1 _ _ HR.out hl c1).mono ?_))); rintro e w1 ⟨rfl, hb1⟩; replace RB := RB.keep hb1; have RC := RB; obtain ⟨k0, k1, k2, k3, k4, k5, k6, k7⟩ := RC; replace HU := up_trans HU hb1; replace HR := Az.mk (HR.out.up hb1); replace hx := up_cell hb1 hx)
 all_goals go_ret
 all_goals exact ⟨rfl, HU⟩) : p := h
theorem mrright_16 {p : Prop} (h : p := by
 simp only [c0, hsh, Bool.and_false, if_false, reduceCtorEq, Bool.false_eq_true] at h
 subst h
 rcases Bool.eq_false_or_eq_true (x.lo == x.hi) with f1 | f1
 all_goals go_enter Tryz.func147, Tryz.ntmps147
 all_goals go_wp2_with ((first | (go_at_call 149; (with_reducible refine (RFamily_calls x.kind _).mono ?_)) | (go_at_call 178; (with_reducible refine (RValid_calls _ _ _ rfl).mono ?_)) | (go_at_call 175; (with_reducible refine (bare_calls x _ c true true false false false _ _ c0).mono ?_))); rintro e w1 ⟨rfl, hb1⟩; replace RB := RB.keep hb1; have RC := RB; obtain ⟨k0, k1, k2, k3, k4, k5, k6, k7⟩ := RC; replace HU := up_trans HU hb1; replace HR := Az.mk (HR.out.up hb1))
 all_goals go_ret
 all_goals exact ⟨rfl, HU⟩) : p := h
theorem rright_4 (x : Rec) (hk : x.kind = 4) (hs : spanB x = true) (A : Option Addr) (c : Nat) (r : Int) (w : World) (hr : Ints .i32 w A x.to) (hl : x.to.length < 4611686018427387904) (hu : x.weight < 18446744073709551616) (h : (if fitsB x = true then 0 else 61) = r) :
 Calls Tryz.prog 147 #[recV x A c] w fun e w' => e = .returned (.int .i64 r) ∧ Up w w' := by
 have hu96 := Tryz.underlying113
 have RB := recBox_new w x A c
 have HU := up_alloc (up_refl w) (recO x A c)
 have HR := Az.mk (Cells.up hr HU)
 clear hr
 have hf : fitsB x = (bareB x true true false false false && (shiftsB x)) := by
  unfold fitsB; simp only [hk]; rfl
 rw [hf] at h
 clear hf
 have e0 : (fam x.kind == 0) = false := bqf (by rw [hk]; decide)
 have e15 : (x.kind == 15) = false := bqf (by omega)
 have e1 : (x.kind == 1) = false := bqf (by omega)
 have e2 : (x.kind == 2) = false := bqf (by omega)
 have e11 : (x.kind == 11) = false := bqf (by omega)
 have e3 : (x.kind == 3) = false := bqf (by omega)
 have e4 : (x.kind == 4) = true := beq_iff_eq.mpr hk
 simp only [spanB, Bool.and_eq_true] at hs
 obtain ⟨⟨d1, d2⟩, d3⟩ := hs
 clear hk
 have p1 : 0 ≤ x.lo := of_decide_eq_true d1
 have p2 : x.lo ≤ x.hi := of_decide_eq_true d2
 have p3 : x.hi ≤ 1114111 := of_decide_eq_true d3
 cases c0 : bareB x true true false false false with
 | false =>
   simp only [c0, Bool.false_and, Bool.and_false, Bool.true_and, Bool.and_true, if_false, if_true, reduceCtorEq, Bool.false_eq_true] at h
   subst h
   rcases Bool.eq_false_or_eq_true (x.lo == x.hi) with f1 | f1
   all_goals
    go_enter Tryz.func147, Tryz.ntmps147
    go_wp2_with ((first | (go_at_call 149; (with_reducible refine (RFamily_calls x.kind _).mono ?_)) | (go_at_call 178; (with_reducible refine (RValid_calls _ _ _ rfl).mono ?_)) | (go_at_call 175; (with_reducible refine (bare_calls x A c true true false false false _ _ c0).mono ?_))); rintro e w1 ⟨rfl, hb1⟩; replace RB := RB.keep hb1; have RC := RB; obtain ⟨k0, k1, k2, k3, k4, k5, k6, k7⟩ := RC; replace HU := up_trans HU hb1; replace HR := Az.mk (HR.out.up hb1))
    all_goals go_ret
    all_goals exact ⟨rfl, HU⟩
 | true =>
   by_cases b1 : 1 ≤ x.n
   ·have g1 : decide (1 ≤ x.n) = true := dTz b1
    by_cases b2 : x.n ≤ 64
    ·have g2 : decide (x.n ≤ 64) = true := dTz b2
     clear b1 b2
     cases c1 : listB x.to 1 1 with
     | false =>
       have hsh : shiftsB x = false := shift_bad x c1
       simp only [c0, hsh, Bool.and_false, if_false, reduceCtorEq, Bool.false_eq_true] at h
       subst h
       rcases Bool.eq_false_or_eq_true (x.lo == x.hi) with f1 | f1
       all_goals go_enter Tryz.func147, Tryz.ntmps147
       all_goals go_wp2_with ((first | (go_at_call 149; (with_reducible refine (RFamily_calls x.kind _).mono ?_)) | (go_at_call 178; (with_reducible refine (RValid_calls _ _ _ rfl).mono ?_)) | (go_at_call 175; (with_reducible refine (bare_calls x _ c true true false false false _ _ c0).mono ?_)) | (go_at_call 179; (with_reducible refine (list_calls x.to _ c 1 1 _ _ HR.out hl c1).mono ?_))); rintro e w1 ⟨rfl, hb1⟩; replace RB := RB.keep hb1; have RC := RB; obtain ⟨k0, k1, k2, k3, k4, k5, k6, k7⟩ := RC; replace HU := up_trans HU hb1; replace HR := Az.mk (HR.out.up hb1))
       all_goals go_ret
       all_goals exact ⟨rfl, HU⟩
     | true =>
       obtain ⟨hlen, hv, hsh⟩ := shift_good x p1 p2 p3 c1
       obtain ⟨ad, hA, hx⟩ := Ints.at_ HR.out 0 (by omega) (by omega)
       subst hA
       replace hx : (w.alloc (recO x (some ad) c)).cell? ad = some (.int .i32 (rd x.to 0)) := hx
       rw [c0, hsh, g1, g2] at h
       have p4 : (0 : Int) < (x.to.length : Int) := by omega
       have p5 : 0 ≤ rd x.to 0 := by simp [validB] at hv; omega
       have p6 : rd x.to 0 ≤ 1114111 := by simp [validB] at hv; omega
       have q0 : x.hi ≤ 1114111 := p3
       clear hlen hv hsh
       by_cases b3 : rd x.to 0 + x.hi - x.lo ≤ 1114111
       ·have g3 : decide (rd x.to 0 + x.hi - x.lo ≤ 1114111) = true := dTz b3
        by_cases b4 : rd x.to 0 + x.hi - x.lo < 55296
        ·have g4 : decide (rd x.to 0 + x.hi - x.lo < 55296) = true := dTz b4
         clear b3 b4
         simp only [g3, g4, Bool.true_and, Bool.true_or, if_true] at h
         exact mrright_3
        ·have g4 : decide (rd x.to 0 + x.hi - x.lo < 55296) = false := dFz b4
         by_cases b5 : 57343 < rd x.to 0
         ·have g5 : decide (57343 < rd x.to 0) = true := dTz b5
          clear b3 b4 b5
          simp only [g3, g4, g5, Bool.true_and, Bool.or_true, if_true] at h
          exact mrright_3
         ·have g5 : decide (57343 < rd x.to 0) = false := dFz b5
          clear b3 b4 b5
          simp only [g3, g4, g5, Bool.true_and, Bool.or_false, if_false, Bool.false_eq_true] at h
          exact mrright_3
       ·have g3 : decide (rd x.to 0 + x.hi - x.lo ≤ 1114111) = false := dFz b3
        clear b3
        simp only [g3, Bool.true_and, Bool.false_and, if_false, Bool.false_eq_true] at h
        exact mrright_3
    ·have g2 : decide (x.n ≤ 64) = false := dFz b2
     have hsh : shiftsB x = false := by unfold shiftsB; rw [g2, Bool.and_false, Bool.false_and]
     clear b1 b2
     exact mrright_16
   ·have g1 : decide (1 ≤ x.n) = false := dFz b1
    have hsh : shiftsB x = false := by unfold shiftsB; rw [g1, Bool.false_and, Bool.false_and]
    clear b1
    exact mrright_16
theorem mrright_4 {p : Prop} (h : p := by
 simp only [ho1, cv, c0, Bool.false_and, Bool.and_false, Bool.true_and, Bool.and_true, if_false, if_true, reduceCtorEq, Bool.false_eq_true] at h
 subst h
 go_enter Tryz.func147, Tryz.ntmps147
 go_wp2_with ((first | (go_at_call 149; (with_reducible refine (RFamily_calls x.kind _).mono ?_)) | (go_at_call 178; (with_reducible refine (RValid_calls x.lo _ _ cv).mono ?_)) | (go_at_call 175; (with_reducible refine (bare_calls x A c false true false false false _ _ c0).mono ?_))); rintro e w1 ⟨rfl, hb1⟩; replace RB := RB.keep hb1; have RC := RB; obtain ⟨k0, k1, k2, k3, k4, k5, k6, k7⟩ := RC; replace HU := up_trans HU hb1; replace HR := Az.mk (HR.out.up hb1))
 all_goals go_ret
 all_goals exact ⟨rfl, HU⟩) : p := h
theorem mrright_6 {p : Prop} (h : p := by
 simp only [ho1, cv, Bool.false_and, Bool.and_false, if_false, reduceCtorEq, Bool.false_eq_true] at h
 subst h
 go_enter Tryz.func147, Tryz.ntmps147
 go_wp2_with ((first | (go_at_call 149; (with_reducible refine (RFamily_calls x.kind _).mono ?_)) | (go_at_call 178; (with_reducible refine (RValid_calls x.lo _ _ cv).mono ?_))); rintro e w1 ⟨rfl, hb1⟩; replace RB := RB.keep hb1; have RC := RB; obtain ⟨k0, k1, k2, k3, k4, k5, k6, k7⟩ := RC; replace HU := up_trans HU hb1; replace HR := Az.mk (HR.out.up hb1))
 all_goals go_ret
 all_goals exact ⟨rfl, HU⟩) : p := h
theorem mrright_11 {p : Prop} (h : p := by
 simp only [ho1, cv, c0, c1, Bool.false_and, Bool.and_false, Bool.true_and, Bool.and_true, if_false, if_true, reduceCtorEq, Bool.false_eq_true] at h
 subst h
 go_enter Tryz.func147, Tryz.ntmps147
 go_wp2_with ((first | (go_at_call 149; (with_reducible refine (RFamily_calls x.kind _).mono ?_)) | (go_at_call 178; (with_reducible refine (RValid_calls x.lo _ _ cv).mono ?_)) | (go_at_call 175; (with_reducible refine (bare_calls x A c false true false false false _ _ c0).mono ?_)) | (go_at_call 179; (with_reducible refine (list_calls x.to A c 0 24 _ _ HR.out hl c1).mono ?_))); rintro e w1 ⟨rfl, hb1⟩; replace RB := RB.keep hb1; have RC := RB; obtain ⟨k0, k1, k2, k3, k4, k5, k6, k7⟩ := RC; replace HU := up_trans HU hb1; replace HR := Az.mk (HR.out.up hb1))
 all_goals go_ret
 all_goals exact ⟨rfl, HU⟩) : p := h
theorem mrright_19 {p : Prop} (h : p := by
 have ho1 : oneB x = false := by unfold oneB; rw [dFz ho, Bool.false_and]
 clear ho
 simp only [ho1, Bool.false_and, Bool.and_false, if_false, reduceCtorEq, Bool.false_eq_true] at h
 subst h
 exact mrright_5) : p := h
theorem rright_5 (x : Rec) (hk : x.kind = 5) (hs : spanB x = true) (A : Option Addr) (c : Nat) (r : Int) (w : World) (hr : Ints .i32 w A x.to) (hl : x.to.length < 4611686018427387904) (hu : x.weight < 18446744073709551616) (h : (if fitsB x = true then 0 else 61) = r) :
 Calls Tryz.prog 147 #[recV x A c] w fun e w' => e = .returned (.int .i64 r) ∧ Up w w' := by
 have hu96 := Tryz.underlying113
 have RB := recBox_new w x A c
 have HU := up_alloc (up_refl w) (recO x A c)
 have HR := Az.mk (Cells.up hr HU)
 clear hr
 have hf : fitsB x = (bareB x false true false false false && (oneB x && (listB x.to 0 24))) := by
  unfold fitsB; simp only [hk]; rfl
 rw [hf] at h
 clear hf
 have e0 : (fam x.kind == 0) = false := bqf (by rw [hk]; decide)
 have e15 : (x.kind == 15) = false := bqf (by omega)
 have e1 : (x.kind == 1) = false := bqf (by omega)
 have e2 : (x.kind == 2) = false := bqf (by omega)
 have e11 : (x.kind == 11) = false := bqf (by omega)
 have e3 : (x.kind == 3) = false := bqf (by omega)
 have e4 : (x.kind == 4) = false := bqf (by omega)
 have e5 : (x.kind == 5) = true := beq_iff_eq.mpr hk
 simp only [spanB, Bool.and_eq_true] at hs
 obtain ⟨⟨d1, d2⟩, d3⟩ := hs
 clear hk
 have p1 : 0 ≤ x.lo := of_decide_eq_true d1
 have p2 : x.lo ≤ x.hi := of_decide_eq_true d2
 have p3 : x.hi ≤ 1114111 := of_decide_eq_true d3
 by_cases ho : x.lo = x.hi
 ·have f1 : (x.lo == x.hi) = true := beq_iff_eq.mpr ho
  have hand : bits BinOp.and IntKind.i64 x.lo 2097151 = x.lo := by rw [i64_and21]; omega
  have hw : wrap32 x.lo = x.lo := by unfold wrap32; omega
  have ho1 : oneB x = validB x.lo := by unfold oneB; rw [dTz ho, Bool.true_and, hw]
  clear ho
  cases cv : validB x.lo with
  | false =>
    exact mrright_6
  | true =>
    cases c0 : bareB x false true false false false with
    | false =>
      exact mrright_4
    | true =>
      cases c1 : listB x.to 0 24 with
      | false =>
        exact mrright_11
      | true =>
        exact mrright_11
 ·have f1 : (x.lo == x.hi) = false := bqf ho
  exact mrright_19
theorem mrright_12 {p : Prop} (h : p := by
 simp only [ho1, cv, c0, c1, Bool.false_and, Bool.and_false, Bool.true_and, Bool.and_true, if_false, if_true, reduceCtorEq, Bool.false_eq_true] at h
 subst h
 go_enter Tryz.func147, Tryz.ntmps147
 go_wp2_with ((first | (go_at_call 149; (with_reducible refine (RFamily_calls x.kind _).mono ?_)) | (go_at_call 178; (with_reducible refine (RValid_calls x.lo _ _ cv).mono ?_)) | (go_at_call 175; (with_reducible refine (bare_calls x A c false true false false false _ _ c0).mono ?_)) | (go_at_call 179; (with_reducible refine (list_calls x.to A c 1 24 _ _ HR.out hl c1).mono ?_))); rintro e w1 ⟨rfl, hb1⟩; replace RB := RB.keep hb1; have RC := RB; obtain ⟨k0, k1, k2, k3, k4, k5, k6, k7⟩ := RC; replace HU := up_trans HU hb1; replace HR := Az.mk (HR.out.up hb1))
 all_goals go_ret
 all_goals exact ⟨rfl, HU⟩) : p := h
theorem rright_13 (x : Rec) (hk : x.kind = 13) (hs : spanB x = true) (A : Option Addr) (c : Nat) (r : Int) (w : World) (hr : Ints .i32 w A x.to) (hl : x.to.length < 4611686018427387904) (hu : x.weight < 18446744073709551616) (h : (if fitsB x = true then 0 else 61) = r) :
 Calls Tryz.prog 147 #[recV x A c] w fun e w' => e = .returned (.int .i64 r) ∧ Up w w' := by
 have hu96 := Tryz.underlying113
 have RB := recBox_new w x A c
 have HU := up_alloc (up_refl w) (recO x A c)
 have HR := Az.mk (Cells.up hr HU)
 clear hr
 have hf : fitsB x = (bareB x false true false false false && (oneB x && (listB x.to 1 24))) := by
  unfold fitsB; simp only [hk]; rfl
 rw [hf] at h
 clear hf
 have e0 : (fam x.kind == 0) = false := bqf (by rw [hk]; decide)
 have e15 : (x.kind == 15) = false := bqf (by omega)
 have e1 : (x.kind == 1) = false := bqf (by omega)
 have e2 : (x.kind == 2) = false := bqf (by omega)
 have e11 : (x.kind == 11) = false := bqf (by omega)
 have e3 : (x.kind == 3) = false := bqf (by omega)
 have e4 : (x.kind == 4) = false := bqf (by omega)
 have e5 : (x.kind == 5) = false := bqf (by omega)
 have e13 : (x.kind == 13) = true := beq_iff_eq.mpr hk
 simp only [spanB, Bool.and_eq_true] at hs
 obtain ⟨⟨d1, d2⟩, d3⟩ := hs
 clear hk
 have p1 : 0 ≤ x.lo := of_decide_eq_true d1
 have p2 : x.lo ≤ x.hi := of_decide_eq_true d2
 have p3 : x.hi ≤ 1114111 := of_decide_eq_true d3
 by_cases ho : x.lo = x.hi
 ·have f1 : (x.lo == x.hi) = true := beq_iff_eq.mpr ho
  have hand : bits BinOp.and IntKind.i64 x.lo 2097151 = x.lo := by rw [i64_and21]; omega
  have hw : wrap32 x.lo = x.lo := by unfold wrap32; omega
  have ho1 : oneB x = validB x.lo := by unfold oneB; rw [dTz ho, Bool.true_and, hw]
  clear ho
  cases cv : validB x.lo with
  | false =>
    exact mrright_6
  | true =>
    cases c0 : bareB x false true false false false with
    | false =>
      exact mrright_4
    | true =>
      cases c1 : listB x.to 1 24 with
      | false =>
        exact mrright_12
      | true =>
        exact mrright_12
 ·have f1 : (x.lo == x.hi) = false := bqf ho
  exact mrright_19
theorem mrright_1 {p : Prop} (h : p := by
 subst h
 rcases Bool.eq_false_or_eq_true (x.lo == x.hi) with f1 | f1
 all_goals
  go_enter Tryz.func147, Tryz.ntmps147
  go_wp2_with ((first | (go_at_call 149; (with_reducible refine (RFamily_calls x.kind _).mono ?_)) | (go_at_call 178; (with_reducible refine (RValid_calls _ _ _ rfl).mono ?_)) | (go_at_call 175; (with_reducible refine (bare_calls x A c true false false false false _ _ c0).mono ?_))); rintro e w1 ⟨rfl, hb1⟩; replace RB := RB.keep hb1; have RC := RB; obtain ⟨k0, k1, k2, k3, k4, k5, k6, k7⟩ := RC; replace HU := up_trans HU hb1; replace HR := Az.mk (HR.out.up hb1))
  all_goals go_ret
  all_goals exact ⟨rfl, HU⟩) : p := h
theorem mrright_18 {p : Prop} (h : p := by
 clear b1 b2
 simp only [c0, g1, g2, Bool.false_and, Bool.and_false, Bool.true_and, Bool.and_true, if_false, if_true, reduceCtorEq, Bool.false_eq_true] at h
 exact mrright_1) : p := h
theorem rright_6 (x : Rec) (hk : x.kind = 6) (hs : spanB x = true) (A : Option Addr) (c : Nat) (r : Int) (w : World) (hr : Ints .i32 w A x.to) (hl : x.to.length < 4611686018427387904) (hu : x.weight < 18446744073709551616) (h : (if fitsB x = true then 0 else 61) = r) :
 Calls Tryz.prog 147 #[recV x A c] w fun e w' => e = .returned (.int .i64 r) ∧ Up w w' := by
 have hu96 := Tryz.underlying113
 have RB := recBox_new w x A c
 have HU := up_alloc (up_refl w) (recO x A c)
 have HR := Az.mk (Cells.up hr HU)
 clear hr
 have hf : fitsB x = (bareB x true false false false false && ((decide (1 ≤ x.n) && decide (x.n ≤ 254)))) := by
  unfold fitsB; simp only [hk]; rfl
 rw [hf] at h
 clear hf
 have e0 : (fam x.kind == 0) = false := bqf (by rw [hk]; decide)
 have e15 : (x.kind == 15) = false := bqf (by omega)
 have e1 : (x.kind == 1) = false := bqf (by omega)
 have e2 : (x.kind == 2) = false := bqf (by omega)
 have e11 : (x.kind == 11) = false := bqf (by omega)
 have e3 : (x.kind == 3) = false := bqf (by omega)
 have e4 : (x.kind == 4) = false := bqf (by omega)
 have e5 : (x.kind == 5) = false := bqf (by omega)
 have e13 : (x.kind == 13) = false := bqf (by omega)
 have e6 : (x.kind == 6) = true := beq_iff_eq.mpr hk
 simp only [spanB, Bool.and_eq_true] at hs
 obtain ⟨⟨d1, d2⟩, d3⟩ := hs
 clear hk
 have p1 : 0 ≤ x.lo := of_decide_eq_true d1
 have p2 : x.lo ≤ x.hi := of_decide_eq_true d2
 have p3 : x.hi ≤ 1114111 := of_decide_eq_true d3
 cases c0 : bareB x true false false false false with
 | false =>
   simp only [c0, Bool.false_and, Bool.and_false, Bool.true_and, Bool.and_true, if_false, if_true, reduceCtorEq, Bool.false_eq_true] at h
   exact mrright_1
 | true =>
   by_cases b1 : 1 ≤ x.n
   ·have g1 : decide (1 ≤ x.n) = true := dTz b1
    by_cases b2 : x.n ≤ 254
    ·have g2 : decide (x.n ≤ 254) = true := dTz b2
     exact mrright_18
    ·have g2 : decide (x.n ≤ 254) = false := dFz b2
     exact mrright_18
   ·have g1 : decide (1 ≤ x.n) = false := dFz b1
    clear b1
    simp only [c0, g1, Bool.false_and, Bool.and_false, Bool.true_and, Bool.and_true, if_false, if_true, reduceCtorEq, Bool.false_eq_true] at h
    exact mrright_1
theorem mrright_13 {p : Prop} (h : p := by
 simp only [ho1, cv, c0, c1, Bool.false_and, Bool.and_false, Bool.true_and, Bool.and_true, if_false, if_true, reduceCtorEq, Bool.false_eq_true] at h
 subst h
 go_enter Tryz.func147, Tryz.ntmps147
 go_wp2_with ((first | (go_at_call 149; (with_reducible refine (RFamily_calls x.kind _).mono ?_)) | (go_at_call 178; (with_reducible refine (RValid_calls x.lo _ _ cv).mono ?_)) | (go_at_call 175; (with_reducible refine (bare_calls x A c false true false false false _ _ c0).mono ?_)) | (go_at_call 179; (with_reducible refine (list_calls x.to A c 2 2 _ _ HR.out hl c1).mono ?_))); rintro e w1 ⟨rfl, hb1⟩; replace RB := RB.keep hb1; have RC := RB; obtain ⟨k0, k1, k2, k3, k4, k5, k6, k7⟩ := RC; replace HU := up_trans HU hb1; replace HR := Az.mk (HR.out.up hb1))
 all_goals go_ret
 all_goals exact ⟨rfl, HU⟩) : p := h
theorem rright_7 (x : Rec) (hk : x.kind = 7) (hs : spanB x = true) (A : Option Addr) (c : Nat) (r : Int) (w : World) (hr : Ints .i32 w A x.to) (hl : x.to.length < 4611686018427387904) (hu : x.weight < 18446744073709551616) (h : (if fitsB x = true then 0 else 61) = r) :
 Calls Tryz.prog 147 #[recV x A c] w fun e w' => e = .returned (.int .i64 r) ∧ Up w w' := by
 have hu96 := Tryz.underlying113
 have RB := recBox_new w x A c
 have HU := up_alloc (up_refl w) (recO x A c)
 have HR := Az.mk (Cells.up hr HU)
 clear hr
 have hf : fitsB x = (bareB x false true false false false && (oneB x && (listB x.to 2 2))) := by
  unfold fitsB; simp only [hk]; rfl
 rw [hf] at h
 clear hf
 have e0 : (fam x.kind == 0) = false := bqf (by rw [hk]; decide)
 have e15 : (x.kind == 15) = false := bqf (by omega)
 have e1 : (x.kind == 1) = false := bqf (by omega)
 have e2 : (x.kind == 2) = false := bqf (by omega)
 have e11 : (x.kind == 11) = false := bqf (by omega)
 have e3 : (x.kind == 3) = false := bqf (by omega)
 have e4 : (x.kind == 4) = false := bqf (by omega)
 have e5 : (x.kind == 5) = false := bqf (by omega)
 have e13 : (x.kind == 13) = false := bqf (by omega)
 have e6 : (x.kind == 6) = false := bqf (by omega)
 have e7 : (x.kind == 7) = true := beq_iff_eq.mpr hk
 simp only [spanB, Bool.and_eq_true] at hs
 obtain ⟨⟨d1, d2⟩, d3⟩ := hs
 clear hk
 have p1 : 0 ≤ x.lo := of_decide_eq_true d1
 have p2 : x.lo ≤ x.hi := of_decide_eq_true d2
 have p3 : x.hi ≤ 1114111 := of_decide_eq_true d3
 by_cases ho : x.lo = x.hi
 ·have f1 : (x.lo == x.hi) = true := beq_iff_eq.mpr ho
  have hand : bits BinOp.and IntKind.i64 x.lo 2097151 = x.lo := by rw [i64_and21]; omega
  have hw : wrap32 x.lo = x.lo := by unfold wrap32; omega
  have ho1 : oneB x = validB x.lo := by unfold oneB; rw [dTz ho, Bool.true_and, hw]
  clear ho
  cases cv : validB x.lo with
  | false =>
    exact mrright_6
  | true =>
    cases c0 : bareB x false true false false false with
    | false =>
      exact mrright_4
    | true =>
      cases c1 : listB x.to 2 2 with
      | false =>
        exact mrright_13
      | true =>
        exact mrright_13
 ·have f1 : (x.lo == x.hi) = false := bqf ho
  exact mrright_19
theorem mrright_14 {p : Prop} (h : p := by
 simp only [ho1, cv, c0, c1, Bool.false_and, Bool.and_false, Bool.true_and, Bool.and_true, if_false, if_true, reduceCtorEq, Bool.false_eq_true] at h
 subst h
 go_enter Tryz.func147, Tryz.ntmps147
 go_wp2_with ((first | (go_at_call 149; (with_reducible refine (RFamily_calls x.kind _).mono ?_)) | (go_at_call 178; (with_reducible refine (RValid_calls x.lo _ _ cv).mono ?_)) | (go_at_call 175; (with_reducible refine (bare_calls x A c false true false false false _ _ c0).mono ?_)) | (go_at_call 179; (with_reducible refine (list_calls x.to A c 1 2 _ _ HR.out hl c1).mono ?_))); rintro e w1 ⟨rfl, hb1⟩; replace RB := RB.keep hb1; have RC := RB; obtain ⟨k0, k1, k2, k3, k4, k5, k6, k7⟩ := RC; replace HU := up_trans HU hb1; replace HR := Az.mk (HR.out.up hb1))
 all_goals go_ret
 all_goals exact ⟨rfl, HU⟩) : p := h
theorem rright_8 (x : Rec) (hk : x.kind = 8) (hs : spanB x = true) (A : Option Addr) (c : Nat) (r : Int) (w : World) (hr : Ints .i32 w A x.to) (hl : x.to.length < 4611686018427387904) (hu : x.weight < 18446744073709551616) (h : (if fitsB x = true then 0 else 61) = r) :
 Calls Tryz.prog 147 #[recV x A c] w fun e w' => e = .returned (.int .i64 r) ∧ Up w w' := by
 have hu96 := Tryz.underlying113
 have RB := recBox_new w x A c
 have HU := up_alloc (up_refl w) (recO x A c)
 have HR := Az.mk (Cells.up hr HU)
 clear hr
 have hf : fitsB x = (bareB x false true false false false && (oneB x && (listB x.to 1 2))) := by
  unfold fitsB; simp only [hk]; rfl
 rw [hf] at h
 clear hf
 have e0 : (fam x.kind == 0) = false := bqf (by rw [hk]; decide)
 have e15 : (x.kind == 15) = false := bqf (by omega)
 have e1 : (x.kind == 1) = false := bqf (by omega)
 have e2 : (x.kind == 2) = false := bqf (by omega)
 have e11 : (x.kind == 11) = false := bqf (by omega)
 have e3 : (x.kind == 3) = false := bqf (by omega)
 have e4 : (x.kind == 4) = false := bqf (by omega)
 have e5 : (x.kind == 5) = false := bqf (by omega)
 have e13 : (x.kind == 13) = false := bqf (by omega)
 have e6 : (x.kind == 6) = false := bqf (by omega)
 have e7 : (x.kind == 7) = false := bqf (by omega)
 have e8 : (x.kind == 8) = true := beq_iff_eq.mpr hk
 simp only [spanB, Bool.and_eq_true] at hs
 obtain ⟨⟨d1, d2⟩, d3⟩ := hs
 clear hk
 have p1 : 0 ≤ x.lo := of_decide_eq_true d1
 have p2 : x.lo ≤ x.hi := of_decide_eq_true d2
 have p3 : x.hi ≤ 1114111 := of_decide_eq_true d3
 by_cases ho : x.lo = x.hi
 ·have f1 : (x.lo == x.hi) = true := beq_iff_eq.mpr ho
  have hand : bits BinOp.and IntKind.i64 x.lo 2097151 = x.lo := by rw [i64_and21]; omega
  have hw : wrap32 x.lo = x.lo := by unfold wrap32; omega
  have ho1 : oneB x = validB x.lo := by unfold oneB; rw [dTz ho, Bool.true_and, hw]
  clear ho
  cases cv : validB x.lo with
  | false =>
    exact mrright_6
  | true =>
    cases c0 : bareB x false true false false false with
    | false =>
      exact mrright_4
    | true =>
      cases c1 : listB x.to 1 2 with
      | false =>
        exact mrright_14
      | true =>
        exact mrright_14
 ·have f1 : (x.lo == x.hi) = false := bqf ho
  exact mrright_19
theorem rright_9 (x : Rec) (hk : x.kind = 9) (hs : spanB x = true) (A : Option Addr) (c : Nat) (r : Int) (w : World) (hr : Ints .i32 w A x.to) (hl : x.to.length < 4611686018427387904) (hu : x.weight < 18446744073709551616) (h : (if fitsB x = true then 0 else 61) = r) :
 Calls Tryz.prog 147 #[recV x A c] w fun e w' => e = .returned (.int .i64 r) ∧ Up w w' := by
 have hu96 := Tryz.underlying113
 have RB := recBox_new w x A c
 have HU := up_alloc (up_refl w) (recO x A c)
 have HR := Az.mk (Cells.up hr HU)
 clear hr
 have hf : fitsB x = (bareB x true false false false false && ((decide (0 ≤ x.n) && decide (x.n ≤ 10)))) := by
  unfold fitsB; simp only [hk]; rfl
 rw [hf] at h
 clear hf
 have e0 : (fam x.kind == 0) = false := bqf (by rw [hk]; decide)
 have e15 : (x.kind == 15) = false := bqf (by omega)
 have e1 : (x.kind == 1) = false := bqf (by omega)
 have e2 : (x.kind == 2) = false := bqf (by omega)
 have e11 : (x.kind == 11) = false := bqf (by omega)
 have e3 : (x.kind == 3) = false := bqf (by omega)
 have e4 : (x.kind == 4) = false := bqf (by omega)
 have e5 : (x.kind == 5) = false := bqf (by omega)
 have e13 : (x.kind == 13) = false := bqf (by omega)
 have e6 : (x.kind == 6) = false := bqf (by omega)
 have e7 : (x.kind == 7) = false := bqf (by omega)
 have e8 : (x.kind == 8) = false := bqf (by omega)
 have e9 : (x.kind == 9) = true := beq_iff_eq.mpr hk
 simp only [spanB, Bool.and_eq_true] at hs
 obtain ⟨⟨d1, d2⟩, d3⟩ := hs
 clear hk
 have p1 : 0 ≤ x.lo := of_decide_eq_true d1
 have p2 : x.lo ≤ x.hi := of_decide_eq_true d2
 have p3 : x.hi ≤ 1114111 := of_decide_eq_true d3
 cases c0 : bareB x true false false false false with
 | false =>
   simp only [c0, Bool.false_and, Bool.and_false, Bool.true_and, Bool.and_true, if_false, if_true, reduceCtorEq, Bool.false_eq_true] at h
   exact mrright_1
 | true =>
   by_cases b1 : 0 ≤ x.n
   ·have g1 : decide (0 ≤ x.n) = true := dTz b1
    by_cases b2 : x.n ≤ 10
    ·have g2 : decide (x.n ≤ 10) = true := dTz b2
     exact mrright_18
    ·have g2 : decide (x.n ≤ 10) = false := dFz b2
     exact mrright_18
   ·have g1 : decide (0 ≤ x.n) = false := dFz b1
    clear b1
    simp only [c0, g1, Bool.false_and, Bool.and_false, Bool.true_and, Bool.and_true, if_false, if_true, reduceCtorEq, Bool.false_eq_true] at h
    exact mrright_1
theorem rright_10 (x : Rec) (hk : x.kind = 10) (hs : spanB x = true) (A : Option Addr) (c : Nat) (r : Int) (w : World) (hr : Ints .i32 w A x.to) (hl : x.to.length < 4611686018427387904) (hu : x.weight < 18446744073709551616) (h : (if fitsB x = true then 0 else 61) = r) :
 Calls Tryz.prog 147 #[recV x A c] w fun e w' => e = .returned (.int .i64 r) ∧ Up w w' := by
 have hu96 := Tryz.underlying113
 have RB := recBox_new w x A c
 have HU := up_alloc (up_refl w) (recO x A c)
 have HR := Az.mk (Cells.up hr HU)
 clear hr
 have hf : fitsB x = (bareB x true false false false false && ((decide (0 ≤ x.n) && decide (x.n ≤ 5)))) := by
  unfold fitsB; simp only [hk]; rfl
 rw [hf] at h
 clear hf
 have e0 : (fam x.kind == 0) = false := bqf (by rw [hk]; decide)
 have e15 : (x.kind == 15) = false := bqf (by omega)
 have e1 : (x.kind == 1) = false := bqf (by omega)
 have e2 : (x.kind == 2) = false := bqf (by omega)
 have e11 : (x.kind == 11) = false := bqf (by omega)
 have e3 : (x.kind == 3) = false := bqf (by omega)
 have e4 : (x.kind == 4) = false := bqf (by omega)
 have e5 : (x.kind == 5) = false := bqf (by omega)
 have e13 : (x.kind == 13) = false := bqf (by omega)
 have e6 : (x.kind == 6) = false := bqf (by omega)
 have e7 : (x.kind == 7) = false := bqf (by omega)
 have e8 : (x.kind == 8) = false := bqf (by omega)
 have e9 : (x.kind == 9) = false := bqf (by omega)
 have e10 : (x.kind == 10) = true := beq_iff_eq.mpr hk
 simp only [spanB, Bool.and_eq_true] at hs
 obtain ⟨⟨d1, d2⟩, d3⟩ := hs
 clear hk
 have p1 : 0 ≤ x.lo := of_decide_eq_true d1
 have p2 : x.lo ≤ x.hi := of_decide_eq_true d2
 have p3 : x.hi ≤ 1114111 := of_decide_eq_true d3
 cases c0 : bareB x true false false false false with
 | false =>
   simp only [c0, Bool.false_and, Bool.and_false, Bool.true_and, Bool.and_true, if_false, if_true, reduceCtorEq, Bool.false_eq_true] at h
   exact mrright_1
 | true =>
   by_cases b1 : 0 ≤ x.n
   ·have g1 : decide (0 ≤ x.n) = true := dTz b1
    by_cases b2 : x.n ≤ 5
    ·have g2 : decide (x.n ≤ 5) = true := dTz b2
     exact mrright_18
    ·have g2 : decide (x.n ≤ 5) = false := dFz b2
     exact mrright_18
   ·have g1 : decide (0 ≤ x.n) = false := dFz b1
    clear b1
    simp only [c0, g1, Bool.false_and, Bool.and_false, Bool.true_and, Bool.and_true, if_false, if_true, reduceCtorEq, Bool.false_eq_true] at h
    exact mrright_1
theorem mrright_10 {p : Prop} (h : p := by
 simp only [c0, c1, Bool.false_and, Bool.and_false, Bool.true_and, Bool.and_true, if_false, if_true, reduceCtorEq, Bool.false_eq_true] at h
 subst h
 rcases Bool.eq_false_or_eq_true (x.lo == x.hi) with f1 | f1
 all_goals
  go_enter Tryz.func147, Tryz.ntmps147
  go_wp2_with ((first | (go_at_call 149; (with_reducible refine (RFamily_calls x.kind _).mono ?_)) | (go_at_call 178; (with_reducible refine (RValid_calls _ _ _ rfl).mono ?_)) | (go_at_call 175; (with_reducible refine (bare_calls x A c false false true false false _ _ c0).mono ?_)) | (go_at_call 176; (with_reducible refine (RName_calls x.name _ _ c1).mono ?_))); rintro e w1 ⟨rfl, hb1⟩; replace RB := RB.keep hb1; have RC := RB; obtain ⟨k0, k1, k2, k3, k4, k5, k6, k7⟩ := RC; replace HU := up_trans HU hb1; replace HR := Az.mk (HR.out.up hb1))
  all_goals go_ret
  all_goals exact ⟨rfl, HU⟩) : p := h
theorem rright_12 (x : Rec) (hk : x.kind = 12) (hs : spanB x = true) (A : Option Addr) (c : Nat) (r : Int) (w : World) (hr : Ints .i32 w A x.to) (hl : x.to.length < 4611686018427387904) (hu : x.weight < 18446744073709551616) (h : (if fitsB x = true then 0 else 61) = r) :
 Calls Tryz.prog 147 #[recV x A c] w fun e w' => e = .returned (.int .i64 r) ∧ Up w w' := by
 have hu96 := Tryz.underlying113
 have RB := recBox_new w x A c
 have HU := up_alloc (up_refl w) (recO x A c)
 have HR := Az.mk (Cells.up hr HU)
 clear hr
 have hf : fitsB x = (bareB x false false true false false && (nameB x.name)) := by
  unfold fitsB; simp only [hk]; rfl
 rw [hf] at h
 clear hf
 have e0 : (fam x.kind == 0) = false := bqf (by rw [hk]; decide)
 have e15 : (x.kind == 15) = false := bqf (by omega)
 have e1 : (x.kind == 1) = false := bqf (by omega)
 have e2 : (x.kind == 2) = false := bqf (by omega)
 have e11 : (x.kind == 11) = false := bqf (by omega)
 have e3 : (x.kind == 3) = false := bqf (by omega)
 have e4 : (x.kind == 4) = false := bqf (by omega)
 have e5 : (x.kind == 5) = false := bqf (by omega)
 have e13 : (x.kind == 13) = false := bqf (by omega)
 have e6 : (x.kind == 6) = false := bqf (by omega)
 have e7 : (x.kind == 7) = false := bqf (by omega)
 have e8 : (x.kind == 8) = false := bqf (by omega)
 have e9 : (x.kind == 9) = false := bqf (by omega)
 have e10 : (x.kind == 10) = false := bqf (by omega)
 have e12 : (x.kind == 12) = true := beq_iff_eq.mpr hk
 simp only [spanB, Bool.and_eq_true] at hs
 obtain ⟨⟨d1, d2⟩, d3⟩ := hs
 clear hk
 have p1 : 0 ≤ x.lo := of_decide_eq_true d1
 have p2 : x.lo ≤ x.hi := of_decide_eq_true d2
 have p3 : x.hi ≤ 1114111 := of_decide_eq_true d3
 cases c0 : bareB x false false true false false with
 | false =>
   simp only [c0, Bool.false_and, Bool.and_false, Bool.true_and, Bool.and_true, if_false, if_true, reduceCtorEq, Bool.false_eq_true] at h
   subst h
   rcases Bool.eq_false_or_eq_true (x.lo == x.hi) with f1 | f1
   all_goals
    go_enter Tryz.func147, Tryz.ntmps147
    go_wp2_with ((first | (go_at_call 149; (with_reducible refine (RFamily_calls x.kind _).mono ?_)) | (go_at_call 178; (with_reducible refine (RValid_calls _ _ _ rfl).mono ?_)) | (go_at_call 175; (with_reducible refine (bare_calls x A c false false true false false _ _ c0).mono ?_))); rintro e w1 ⟨rfl, hb1⟩; replace RB := RB.keep hb1; have RC := RB; obtain ⟨k0, k1, k2, k3, k4, k5, k6, k7⟩ := RC; replace HU := up_trans HU hb1; replace HR := Az.mk (HR.out.up hb1))
    all_goals go_ret
    all_goals exact ⟨rfl, HU⟩
 | true =>
   cases c1 : nameB x.name with
   | false =>
     exact mrright_10
   | true =>
     exact mrright_10
theorem mrright_9 {p : Prop} (h : p := by
 simp only [c0, c1, Bool.false_and, Bool.and_false, Bool.true_and, Bool.and_true, if_false, if_true, reduceCtorEq, Bool.false_eq_true] at h
 subst h
 rcases Bool.eq_false_or_eq_true (x.lo == x.hi) with f1 | f1
 all_goals
  go_enter Tryz.func147, Tryz.ntmps147
  go_wp2_with ((first | (go_at_call 149; (with_reducible refine (RFamily_calls x.kind _).mono ?_)) | (go_at_call 178; (with_reducible refine (RValid_calls _ _ _ rfl).mono ?_)) | (go_at_call 175; (with_reducible refine (bare_calls x A c false false false false true _ _ c0).mono ?_)) | (go_at_call 177; (with_reducible refine (weight_calls x.weight _ _ c1).mono ?_))); rintro e w1 ⟨rfl, hb1⟩; replace RB := RB.keep hb1; have RC := RB; obtain ⟨k0, k1, k2, k3, k4, k5, k6, k7⟩ := RC; replace HU := up_trans HU hb1; replace HR := Az.mk (HR.out.up hb1))
  all_goals go_ret
  all_goals exact ⟨rfl, HU⟩) : p := h
theorem rright_14 (x : Rec) (hk : x.kind = 14) (hs : spanB x = true) (A : Option Addr) (c : Nat) (r : Int) (w : World) (hr : Ints .i32 w A x.to) (hl : x.to.length < 4611686018427387904) (hu : x.weight < 18446744073709551616) (h : (if fitsB x = true then 0 else 61) = r) :
 Calls Tryz.prog 147 #[recV x A c] w fun e w' => e = .returned (.int .i64 r) ∧ Up w w' := by
 have hu96 := Tryz.underlying113
 have RB := recBox_new w x A c
 have HU := up_alloc (up_refl w) (recO x A c)
 have HR := Az.mk (Cells.up hr HU)
 clear hr
 have hf : fitsB x = (bareB x false false false false true && (weightB x.weight)) := by
  unfold fitsB; simp only [hk]; rfl
 rw [hf] at h
 clear hf
 have e0 : (fam x.kind == 0) = false := bqf (by rw [hk]; decide)
 have e15 : (x.kind == 15) = false := bqf (by omega)
 have e1 : (x.kind == 1) = false := bqf (by omega)
 have e2 : (x.kind == 2) = false := bqf (by omega)
 have e11 : (x.kind == 11) = false := bqf (by omega)
 have e3 : (x.kind == 3) = false := bqf (by omega)
 have e4 : (x.kind == 4) = false := bqf (by omega)
 have e5 : (x.kind == 5) = false := bqf (by omega)
 have e13 : (x.kind == 13) = false := bqf (by omega)
 have e6 : (x.kind == 6) = false := bqf (by omega)
 have e7 : (x.kind == 7) = false := bqf (by omega)
 have e8 : (x.kind == 8) = false := bqf (by omega)
 have e9 : (x.kind == 9) = false := bqf (by omega)
 have e10 : (x.kind == 10) = false := bqf (by omega)
 have e12 : (x.kind == 12) = false := bqf (by omega)
 simp only [spanB, Bool.and_eq_true] at hs
 obtain ⟨⟨d1, d2⟩, d3⟩ := hs
 clear hk
 have p1 : 0 ≤ x.lo := of_decide_eq_true d1
 have p2 : x.lo ≤ x.hi := of_decide_eq_true d2
 have p3 : x.hi ≤ 1114111 := of_decide_eq_true d3
 cases c0 : bareB x false false false false true with
 | false =>
   simp only [c0, Bool.false_and, Bool.and_false, Bool.true_and, Bool.and_true, if_false, if_true, reduceCtorEq, Bool.false_eq_true] at h
   subst h
   rcases Bool.eq_false_or_eq_true (x.lo == x.hi) with f1 | f1
   all_goals
    go_enter Tryz.func147, Tryz.ntmps147
    go_wp2_with ((first | (go_at_call 149; (with_reducible refine (RFamily_calls x.kind _).mono ?_)) | (go_at_call 178; (with_reducible refine (RValid_calls _ _ _ rfl).mono ?_)) | (go_at_call 175; (with_reducible refine (bare_calls x A c false false false false true _ _ c0).mono ?_))); rintro e w1 ⟨rfl, hb1⟩; replace RB := RB.keep hb1; have RC := RB; obtain ⟨k0, k1, k2, k3, k4, k5, k6, k7⟩ := RC; replace HU := up_trans HU hb1; replace HR := Az.mk (HR.out.up hb1))
    all_goals go_ret
    all_goals exact ⟨rfl, HU⟩
 | true =>
   cases c1 : weightB x.weight with
   | false =>
     exact mrright_9
   | true =>
     exact mrright_9
theorem mrright_7 {p : Prop} (h : p := by
 simp only [c0, c1, c2, c3, c4, Bool.false_and, Bool.and_false, Bool.true_and, Bool.and_true, Bool.not_true, Bool.not_false, if_false, if_true, reduceCtorEq, Bool.false_eq_true] at h
 subst h
 go_enter Tryz.func147, Tryz.ntmps147
 go_wp2_with ((first | (go_at_call 149; (with_reducible refine (RFamily_calls x.kind _).mono ?_)) | (go_at_call 175; (with_reducible refine (bare_calls x A c false false true true true _ _ c0).mono ?_)) | (go_at_call 176; (with_reducible refine (RName_calls x.name _ _ c1).mono ?_)) | (go_at_call 176; (with_reducible refine (RName_calls x.other _ _ c2).mono ?_)) | (go_at_call 177; (with_reducible refine (weight_calls x.weight _ _ c4).mono ?_))); rintro e w1 ⟨rfl, hb1⟩; replace RB := RB.keep hb1; have RC := RB; obtain ⟨k0, k1, k2, k3, k4, k5, k6, k7⟩ := RC; replace HU := up_trans HU hb1; replace HR := Az.mk (HR.out.up hb1))
 all_goals go_ret
 all_goals exact ⟨rfl, HU⟩) : p := h
theorem mrright_15 {p : Prop} (h : p := by
 subst h
 go_enter Tryz.func147, Tryz.ntmps147
 go_wp2_with ((first | (go_at_call 149; (with_reducible refine (RFamily_calls x.kind _).mono ?_)) | (go_at_call 175; (with_reducible refine (bare_calls x A c false false true true true _ _ c0).mono ?_)) | (go_at_call 176; (with_reducible refine (RName_calls x.name _ _ c1).mono ?_)) | (go_at_call 176; (with_reducible refine (RName_calls x.other _ _ c2).mono ?_))); rintro e w1 ⟨rfl, hb1⟩; replace RB := RB.keep hb1; have RC := RB; obtain ⟨k0, k1, k2, k3, k4, k5, k6, k7⟩ := RC; replace HU := up_trans HU hb1; replace HR := Az.mk (HR.out.up hb1))
 all_goals go_ret
 all_goals exact ⟨rfl, HU⟩) : p := h
theorem rright_15 (x : Rec) (hk : x.kind = 15) (A : Option Addr) (c : Nat) (r : Int) (w : World) (hr : Ints .i32 w A x.to) (hl : x.to.length < 4611686018427387904) (hu : x.weight < 18446744073709551616) (h : (if (decide (x.lo = 0) && decide (x.hi = 0) && fitsB x) = true then 0 else 61) = r) :
 Calls Tryz.prog 147 #[recV x A c] w fun e w' => e = .returned (.int .i64 r) ∧ Up w w' := by
 have hu96 := Tryz.underlying113
 have RB := recBox_new w x A c
 have HU := up_alloc (up_refl w) (recO x A c)
 have HR := Az.mk (Cells.up hr HU)
 clear hr
 have hf : fitsB x = (bareB x false false true true true && (nameB x.name && (nameB x.other && (!(x.name.toList == x.other.toList) && weightB x.weight)))) := by
  unfold fitsB; simp only [hk]; rfl
 rw [hf] at h
 clear hf
 have e0 : (fam x.kind == 0) = false := bqf (by rw [hk]; decide)
 have e15 : (x.kind == 15) = true := beq_iff_eq.mpr hk
 clear hk
 by_cases b1 : x.lo = 0
 ·have f1 : (x.lo == 0) = true := beq_iff_eq.mpr b1
  by_cases b2 : x.hi = 0
  ·have f2 : (x.hi == 0) = true := beq_iff_eq.mpr b2
   rw [dTz b1, dTz b2] at h
   clear b1 b2
   cases c0 : bareB x false false true true true with
   | false =>
     simp only [c0, Bool.false_and, Bool.and_false, Bool.true_and, Bool.and_true, Bool.not_true, Bool.not_false, if_false, if_true, reduceCtorEq, Bool.false_eq_true] at h
     subst h
     go_enter Tryz.func147, Tryz.ntmps147
     go_wp2_with ((first | (go_at_call 149; (with_reducible refine (RFamily_calls x.kind _).mono ?_)) | (go_at_call 175; (with_reducible refine (bare_calls x A c false false true true true _ _ c0).mono ?_))); rintro e w1 ⟨rfl, hb1⟩; replace RB := RB.keep hb1; have RC := RB; obtain ⟨k0, k1, k2, k3, k4, k5, k6, k7⟩ := RC; replace HU := up_trans HU hb1; replace HR := Az.mk (HR.out.up hb1))
     all_goals go_ret
     all_goals exact ⟨rfl, HU⟩
   | true =>
     cases c1 : nameB x.name with
     | false =>
       simp only [c0, c1, Bool.false_and, Bool.and_false, Bool.true_and, Bool.and_true, Bool.not_true, Bool.not_false, if_false, if_true, reduceCtorEq, Bool.false_eq_true] at h
       subst h
       go_enter Tryz.func147, Tryz.ntmps147
       go_wp2_with ((first | (go_at_call 149; (with_reducible refine (RFamily_calls x.kind _).mono ?_)) | (go_at_call 175; (with_reducible refine (bare_calls x A c false false true true true _ _ c0).mono ?_)) | (go_at_call 176; (with_reducible refine (RName_calls x.name _ _ c1).mono ?_))); rintro e w1 ⟨rfl, hb1⟩; replace RB := RB.keep hb1; have RC := RB; obtain ⟨k0, k1, k2, k3, k4, k5, k6, k7⟩ := RC; replace HU := up_trans HU hb1; replace HR := Az.mk (HR.out.up hb1))
       all_goals go_ret
       all_goals exact ⟨rfl, HU⟩
     | true =>
       cases c2 : nameB x.other with
       | false =>
         simp only [c0, c1, c2, Bool.false_and, Bool.and_false, Bool.true_and, Bool.and_true, Bool.not_true, Bool.not_false, if_false, if_true, reduceCtorEq, Bool.false_eq_true] at h
         exact mrright_15
       | true =>
         cases c3 : (x.name.toList == x.other.toList) with
         | true =>
           simp only [c0, c1, c2, c3, Bool.false_and, Bool.and_false, Bool.true_and, Bool.and_true, Bool.not_true, Bool.not_false, if_false, if_true, reduceCtorEq, Bool.false_eq_true] at h
           exact mrright_15
         | false =>
           cases c4 : weightB x.weight with
           | false =>
             exact mrright_7
           | true =>
             exact mrright_7
  ·have f2 : (x.hi == 0) = false := bqf b2
   rw [dFz b2, Bool.and_false, Bool.false_and] at h
   clear b1 b2
   simp only [f2, Bool.false_and, Bool.and_false, Bool.true_and, Bool.and_true, Bool.not_true, Bool.not_false, if_false, if_true, reduceCtorEq, Bool.false_eq_true] at h
   subst h
   exact mrright_5
 ·have f1 : (x.lo == 0) = false := bqf b1
  rw [dFz b1, Bool.false_and, Bool.false_and] at h
  clear b1
  simp only [f1, Bool.false_and, Bool.and_false, Bool.true_and, Bool.and_true, Bool.not_true, Bool.not_false, if_false, if_true, reduceCtorEq, Bool.false_eq_true] at h
  subst h
  exact mrright_5
theorem RRight_calls (x : Rec) (A : Option Addr) (c : Nat) (r : Int) (w : World) (hr : Ints .i32 w A x.to) (hl : x.to.length < 4611686018427387904) (hu : x.weight < 18446744073709551616) (h : rightE x = r) :
 Calls Tryz.prog 147 #[recV x A c] w fun e w' => e = .returned (.int .i64 r) ∧ Up w w' := by
 unfold rightE at h
 by_cases hf : fam x.kind = 0
 ·rw [if_pos hf] at h
  exact rright_none x hf A c r w hr hl hu h.symm
 rw [if_neg hf] at h
 have hk : 1 ≤ x.kind ∧ x.kind ≤ 15 := by
  rcases fam_range x.kind with h' | h'
  ·exact absurd h' hf
  ·exact h'
 by_cases h15 : x.kind = 15
 ·rw [if_pos h15] at h
  exact rright_15 x h15 A c r w hr hl hu h
 rw [if_neg h15] at h
 cases hs : spanB x with
 | false =>
   rw [hs, Bool.false_and] at h
   exact rright_span x hf h15 hs A c r w hr hl hu h.symm
 | true =>
   rw [hs, Bool.true_and] at h
   have hc : x.kind = 1 ∨ x.kind = 2 ∨ x.kind = 11 ∨ x.kind = 3 ∨ x.kind = 4 ∨ x.kind = 5 ∨ x.kind = 13 ∨ x.kind = 6 ∨ x.kind = 7 ∨ x.kind = 8 ∨ x.kind = 9 ∨ x.kind = 10 ∨ x.kind = 12 ∨ x.kind = 14 := by omega
   rcases hc with hk | hk | hk | hk | hk | hk | hk | hk | hk | hk | hk | hk | hk | hk
   ·exact rright_1 x hk hs A c r w hr hl hu h
   ·exact rright_2 x hk hs A c r w hr hl hu h
   ·exact rright_11 x hk hs A c r w hr hl hu h
   ·exact rright_3 x hk hs A c r w hr hl hu h
   ·exact rright_4 x hk hs A c r w hr hl hu h
   ·exact rright_5 x hk hs A c r w hr hl hu h
   ·exact rright_13 x hk hs A c r w hr hl hu h
   ·exact rright_6 x hk hs A c r w hr hl hu h
   ·exact rright_7 x hk hs A c r w hr hl hu h
   ·exact rright_8 x hk hs A c r w hr hl hu h
   ·exact rright_9 x hk hs A c r w hr hl hu h
   ·exact rright_10 x hk hs A c r w hr hl hu h
   ·exact rright_12 x hk hs A c r w hr hl hu h
   ·exact rright_14 x hk hs A c r w hr hl hu h
end Go.Proofs.YtnohcnneflogjaaGreat.M
