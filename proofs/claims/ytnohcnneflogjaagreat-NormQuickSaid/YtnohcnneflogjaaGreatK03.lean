/- The small tests of a record, walked. -/
import Derived.Test.YtnohcnneflogjaaGreatK02
import Derived.Laws.Externs
import Derived.Laws.Cover2
set_option maxHeartbeats 8000000
set_option maxRecDepth 100000
set_option linter.unusedVariables false
set_option linter.unusedSimpArgs false
namespace Go.Proofs.YtnohcnneflogjaaGreat.M
open Go.RowKit
theorem run_bits (a : Nat) (w : World) : (callFunc 193 #[.float .f64 a]).run Tryz.prog w = .ok (.value (.int .u64 a)) w := by
 rw [run_callFunc_extern Tryz.func193 (by kernel_rfl) (by kernel_rfl) (by kernel_rfl) (e := Extern.MathFloatBits.float64bits) (by kernel_rfl)]
 rfl
def api_Bits.f (b : Nat) : Option Int := some (b : Int)
theorem api_Bits.calls (a0 : Nat) (r : Int) (w : World) (h : api_Bits.f a0 = some r) : Calls Tryz.prog 165 #[.float .f64 a0] w fun e w' => e = .returned (.int .u64 r) ∧ Up w w' := by
 have hr : r = (a0 : Int) := (Option.some.inj h).symm
 subst hr
 have hb := run_bits a0 w
 go_enter Tryz.func165, Tryz.ntmps165
 go_wp2
 go_ret
 exact ⟨rfl, up_refl _⟩
def endonymref6_Family.f (k : Int) : Option Int := some (if 1 ≤ k ∧ k ≤ 15 then rd fams k else 0)
def agg163 : Array Value := #[.int .i64 0, .int .i64 1, .int .i64 1, .int .i64 1, .int .i64 1, .int .i64 1, .int .i64 2, .int .i64 3, .int .i64 3, .int .i64 4, .int .i64 5, .int .i64 6, .int .i64 7, .int .i64 8, .int .i64 9, .int .i64 10]
theorem endonymref6_Family.calls (a0 : Int) (r : Int) (w : World) (h : endonymref6_Family.f a0 = some r) : Calls Tryz.prog 149 #[.int .i64 a0] w fun e w' => e = .returned (.int .i64 r) ∧ Up w w' := by
 have hr := (Option.some.inj h).symm
 by_cases h1 : a0 < 1
 ·rw [if_neg (by omega)] at hr
  subst hr
  have c1 : decide (a0 < 1) = true := dTz h1
  go_enter Tryz.func149, Tryz.ntmps149
  go_wp2
  go_ret
  exact ⟨rfl, up_refl _⟩
 ·have c1 : decide (a0 < 1) = false := dFz h1
  by_cases h2 : 15 < a0
  ·rw [if_neg (by omega)] at hr
   subst hr
   have c2 : decide (15 < a0) = true := dTz h2
   go_enter Tryz.func149, Tryz.ntmps149
   go_wp2
   go_ret
   exact ⟨rfl, up_refl _⟩
  ·rw [if_pos (by omega)] at hr
   have c2 : decide (15 < a0) = false := dFz h2
   have hix : ∀ W : World, (Instr.index 198 (.agg agg163) (.int .i64 a0)).run Tryz.prog W = .ok (.int .i64 r) W := by
    have hc : a0 = 1 ∨ a0 = 2 ∨ a0 = 3 ∨ a0 = 4 ∨ a0 = 5 ∨ a0 = 6 ∨ a0 = 7 ∨ a0 = 8 ∨ a0 = 9 ∨ a0 = 10 ∨ a0 = 11 ∨ a0 = 12 ∨ a0 = 13 ∨ a0 = 14 ∨ a0 = 15 := by omega
    subst hr
    clear c1 c2 h1 h2 h
    intro W
    rcases hc with rfl | rfl | rfl | rfl | rfl | rfl | rfl | rfl | rfl | rfl | rfl | rfl | rfl | rfl | rfl <;> kernel_rfl
   unfold agg163 at hix
   clear hr h h1 h2
   go_enter Tryz.func149, Tryz.ntmps149
   go_wp2
   go_ret
   exact ⟨rfl, up_refl _⟩
theorem Valid_calls (c : Int) (b : Bool) (w : World) (h : validB c = b) : Calls Tryz.prog 248 #[.int .i32 c] w fun e w' => e = .returned (.bool b) ∧ Up w w' := by
 subst h
 unfold validB
 cases b1 : decide (0 ≤ c) <;> cases b2 : decide (c ≤ 1114111) <;> cases b3 : decide (c < 55296) <;> cases b4 : decide (57343 < c) <;>
  (go_enter Tryz.func248, Tryz.ntmps248; go_wp2; go_ret; exact ⟨rfl, up_refl _⟩)
theorem RValid_calls (c : Int) (b : Bool) (w : World) (h : validB c = b) : Calls Tryz.prog 178 #[.int .i32 c] w fun e w' => e = .returned (.bool b) ∧ Up w w' := by
 have h' : (decide (0 ≤ c) && decide (c ≤ 55295) || decide (57344 ≤ c) && decide (c ≤ 1114111)) = b := by
  rw [← h, validB, Bool.eq_iff_iff]; simp; omega
 subst h'
 clear h
 cases b1 : decide (0 ≤ c) <;> cases b2 : decide (c ≤ 55295) <;> cases b3 : decide (57344 ≤ c) <;> cases b4 : decide (c ≤ 1114111) <;>
  (go_enter Tryz.func178, Tryz.ntmps178; go_wp2; go_ret; exact ⟨rfl, up_refl _⟩)
theorem all_step (p : Int → Bool) (l : List Int) (i : Nat) (h : i < l.length) : (l.drop i).all p = (p (rd l i) && (l.drop (i + 1)).all p) := by
 rw [List.drop_eq_getElem_cons h, List.all_cons]
 congr 1
 simp [rd, h]
theorem Sound_calls (A : Option Addr) (c : Nat) (l : List Int) (b : Bool) (w : World) (hr : Ints .i32 w A l) (hl : l.length < 4611686018427387904) (h : l.all validB = b) :
 Calls Tryz.prog 247 #[.slice A l.length c] w fun e w' => e = .returned (.bool b) ∧ Up w w' := by
 have HR := Az.mk hr
 clear hr
 have h' : (l.drop 0).all validB = b := h
 clear h
 go_enter Tryz.func247, Tryz.ntmps247
 go_wp2
 go_loopg [7] l.length (fun k v7 w' => ∃ i : Nat, v7 = .int .i64 i ∧ Az (i + k = l.length ∧ (l.drop i).all validB = b) ∧ Az (Up w w'))
 case atStart => exact ⟨0, rfl, ⟨Nat.zero_add _, h'⟩, ⟨up_refl _⟩⟩
 case round =>
  clear h'
  obtain ⟨i, rfl, HI, HB⟩ := hrel
  have hi := HI.out.1
  cases gk with
  | zero =>
    have hlt : decide ((i : Int) < (l.length : Int)) = false := dFz (by omega)
    have hb := HI.out.2
    rw [List.drop_of_length_le (by omega)] at hb
    subst hb
    go_wp2
    go_ret
    exact ⟨rfl, HB.out⟩
  | succ k =>
    have hlt : decide ((i : Int) < (l.length : Int)) = true := dTz (by omega)
    have hb := HI.out.2
    rw [all_step _ _ _ (by omega)] at hb
    obtain ⟨ad, hA, hx⟩ := HR.out.at_ i (by omega) (by omega)
    replace hx := up_cell HB.out hx
    rw [Int.toNat_natCast] at hx
    subst hA
    have p1 : 0 ≤ (i : Int) := by omega
    have p2 : (i : Int) < (l.length : Int) := by omega
    cases hv : validB (rd l i) with
    | false =>
      rw [hv] at hb
      go_wp2_with (first | (go_at_call 248; refine (Valid_calls _ _ _ hv).mono ?_; rintro e w1 ⟨rfl, hb1⟩))
      go_ret
      exact ⟨by rw [← hb]; rfl, up_trans HB.out hb1⟩
    | true =>
      rw [hv, Bool.true_and] at hb
      have HB2 := Az.mk hb
      clear hb hi
      go_wp2_with (first | (go_at_call 248; refine (Valid_calls _ _ _ hv).mono ?_; rintro e w1 ⟨rfl, hb1⟩))
      go_roundg k
      case measure => have := HI.out; omega
      case rel => exact ⟨i + 1, rfl, ⟨by have := HI.out; omega, HB2.out⟩, ⟨up_trans HB.out hb1⟩⟩
theorem RSound_calls (A : Option Addr) (c : Nat) (l : List Int) (b : Bool) (w : World) (hr : Ints .i32 w A l) (hl : l.length < 4611686018427387904) (h : l.all validB = b) :
 Calls Tryz.prog 204 #[.slice A l.length c] w fun e w' => e = .returned (.bool b) ∧ Up w w' := by
 have HR := Az.mk hr
 clear hr
 have h' : (l.drop 0).all validB = b := h
 clear h
 go_enter Tryz.func204, Tryz.ntmps204
 go_wp2
 go_loopg [3] l.length (fun k v3 w' => ∃ i : Nat, v3 = .int .i64 i ∧ Az (i + k = l.length ∧ (l.drop i).all validB = b) ∧ Az (Up w w'))
 case atStart => exact ⟨0, rfl, ⟨Nat.zero_add _, h'⟩, ⟨up_refl _⟩⟩
 case round =>
  clear h'
  obtain ⟨i, rfl, HI, HB⟩ := hrel
  have hi := HI.out.1
  cases gk with
  | zero =>
    have hlt : decide ((i : Int) < (l.length : Int)) = false := dFz (by omega)
    have hb := HI.out.2
    rw [List.drop_of_length_le (by omega)] at hb
    subst hb
    go_wp2
    go_ret
    exact ⟨rfl, HB.out⟩
  | succ k =>
    have hlt : decide ((i : Int) < (l.length : Int)) = true := dTz (by omega)
    have hb := HI.out.2
    rw [all_step _ _ _ (by omega)] at hb
    obtain ⟨ad, hA, hx⟩ := HR.out.at_ i (by omega) (by omega)
    replace hx := up_cell HB.out hx
    rw [Int.toNat_natCast] at hx
    subst hA
    have p1 : 0 ≤ (i : Int) := by omega
    have p2 : (i : Int) < (l.length : Int) := by omega
    cases hv : validB (rd l i) with
    | false =>
      rw [hv] at hb
      go_wp2_with (first | (go_at_call 178; refine (RValid_calls _ _ _ hv).mono ?_; rintro e w1 ⟨rfl, hb1⟩))
      go_ret
      exact ⟨by rw [← hb]; rfl, up_trans HB.out hb1⟩
    | true =>
      rw [hv, Bool.true_and] at hb
      have HB2 := Az.mk hb
      clear hb hi
      go_wp2_with (first | (go_at_call 178; refine (RValid_calls _ _ _ hv).mono ?_; rintro e w1 ⟨rfl, hb1⟩))
      go_roundg k
      case measure => have := HI.out; omega
      case rel => exact ⟨i + 1, rfl, ⟨by have := HI.out; omega, HB2.out⟩, ⟨up_trans HB.out hb1⟩⟩
theorem between_calls (x : Rec) (A : Option Addr) (c : Nat) (lo hi : Int) (b : Bool) (w : World) (h : (decide (lo ≤ x.n) && decide (x.n ≤ hi)) = b) : Calls Tryz.prog 224 #[recV x A c, .int .i64 lo, .int .i64 hi] w fun e w' => e = .returned (.bool b) ∧ Up w w' := by
 have hu96 := Tryz.underlying113
 subst h
 cases b1 : decide (lo ≤ x.n) <;> cases b2 : decide (x.n ≤ hi) <;>
  (go_enter Tryz.func224, Tryz.ntmps224; go_wp2; go_ret; exact ⟨rfl, up_alloc (up_refl _) _⟩)
theorem one_calls (x : Rec) (A : Option Addr) (c : Nat) (b : Bool) (w : World) (h : oneB x = b) : Calls Tryz.prog 223 #[recV x A c] w fun e w' => e = .returned (.bool b) ∧ Up w w' := by
 have hu96 := Tryz.underlying113
 unfold oneB at h
 by_cases c1 : x.lo = x.hi
 ·rw [dTz c1, Bool.true_and] at h
  have b1 : (x.lo == x.hi) = true := beq_iff_eq.mpr c1
  clear c1
  go_enter Tryz.func223, Tryz.ntmps223
  go_wp2_with (first | (go_at_call 248; refine (Valid_calls _ _ _ h).mono ?_; rintro e w1 ⟨rfl, hb1⟩))
  go_ret
  exact ⟨rfl, up_trans (up_alloc (up_refl _) _) hb1⟩
 ·rw [dFz c1, Bool.false_and] at h
  subst h
  have b1 : (x.lo == x.hi) = false := bqf c1
  clear c1
  go_enter Tryz.func223, Tryz.ntmps223
  go_wp2
  go_ret
  exact ⟨rfl, up_alloc (up_refl _) _⟩
theorem sound_calls (x : Rec) (A : Option Addr) (c : Nat) (lo hi : Int) (b : Bool) (w : World) (hr : Ints .i32 w A x.to) (hl : x.to.length < 4611686018427387904) (h : listB x.to lo hi = b) : Calls Tryz.prog 221 #[recV x A c, .int .i64 lo, .int .i64 hi] w fun e w' => e = .returned (.bool b) ∧ Up w w' := by
 have hu96 := Tryz.underlying113
 have HR := Az.mk hr
 clear hr
 unfold listB at h
 cases b1 : decide (lo ≤ (x.to.length : Int)) with
 | false =>
   rw [b1] at h
   subst h
   go_enter Tryz.func221, Tryz.ntmps221
   go_wp2
   go_ret
   exact ⟨rfl, up_alloc (up_refl _) _⟩
 | true =>
   cases b2 : decide ((x.to.length : Int) ≤ hi) with
   | false =>
     rw [b1, b2] at h
     subst h
     go_enter Tryz.func221, Tryz.ntmps221
     go_wp2
     go_ret
     exact ⟨rfl, up_alloc (up_refl _) _⟩
   | true =>
     rw [b1, b2, Bool.true_and, Bool.true_and] at h
     have HK : Ints .i32 (w.alloc (recO x A c)) A x.to := HR.out.up (up_alloc (up_refl _) _)
     go_enter Tryz.func221, Tryz.ntmps221
     go_wp2_with (first | (go_at_call 247; refine (Sound_calls _ _ _ _ _ HK hl h).mono ?_; rintro e w1 ⟨rfl, hb1⟩))
     go_ret
     exact ⟨rfl, up_trans (up_alloc (up_refl _) _) hb1⟩
theorem list_calls (l : List Int) (A : Option Addr) (c : Nat) (lo hi : Int) (b : Bool) (w : World) (hr : Ints .i32 w A l) (hl : l.length < 4611686018427387904) (h : listB l lo hi = b) : Calls Tryz.prog 179 #[.slice A l.length c, .int .i64 lo, .int .i64 hi] w fun e w' => e = .returned (.bool b) ∧ Up w w' := by
 have HR := Az.mk hr
 clear hr
 unfold listB at h
 cases b1 : decide (lo ≤ (l.length : Int)) with
 | false =>
   rw [b1] at h
   subst h
   go_enter Tryz.func179, Tryz.ntmps179
   go_wp2
   go_ret
   exact ⟨rfl, up_refl _⟩
 | true =>
   cases b2 : decide ((l.length : Int) ≤ hi) with
   | false =>
     rw [b1, b2] at h
     subst h
     go_enter Tryz.func179, Tryz.ntmps179
     go_wp2
     go_ret
     exact ⟨rfl, up_refl _⟩
   | true =>
     rw [b1, b2, Bool.true_and, Bool.true_and] at h
     go_enter Tryz.func179, Tryz.ntmps179
     go_wp2_with (first | (go_at_call 204; refine (RSound_calls _ _ _ _ _ HR.out hl h).mono ?_; rintro e w1 ⟨rfl, hb1⟩))
     go_ret
     exact ⟨rfl, hb1⟩
theorem wrap_next (i : Nat) (h : i < 4611686018427387904) : wrap64 ((i : Int) + 1) = ((i + 1 : Nat) : Int) := by unfold wrap64; omega
theorem mrec_1 {p : Prop} (h : p := by
 go_wp2
 go_loopg [3] 3 (fun k v3 w' => ∃ i : Nat, v3 = .int .i64 i ∧ Az (i + k = 4 ∧ tailB s i = b) ∧ Az (Up w w'))
 case atStart => exact ⟨1, rfl, ⟨rfl, h⟩, ⟨up_refl _⟩⟩
 case round =>
  clear h
  obtain ⟨i, rfl, HI, HB⟩ := hrel
  have hi := HI.out.1
  cases gk with
  | zero =>
    have hlt : decide ((i : Int) < 4) = false := dFz (by omega)
    have hb := HI.out.2
    obtain rfl : i = 4 := by omega
    subst hb
    go_wp2
    go_ret
    exact ⟨rfl, HB.out⟩
  | succ k =>
    have hlt : decide ((i : Int) < 4) = true := dTz (by omega)
    have hb := HI.out.2
    rw [tail_step _ _ (by omega), lowB] at hb
    have p2 : 0 ≤ (i : Int) := by omega
    have p3 : (i : Int) < (s.size : Int) := by have := HS.out; omega
    have hx6 : ∀ h : i < s.size, ((s[i]'h).toNat : Int) = bt s (i : Int) := bt_at s i
    cases b5 : decide (bt s (i : Int) < 97) with
    | true =>
      rw [b5] at hb
      subst hb
      go_wp2
      go_ret
      exact ⟨rfl, HB.out⟩
    | false =>
      cases b6 : decide (122 < bt s (i : Int)) with
      | true =>
        rw [b5, b6] at hb
        subst hb
        go_wp2
        go_ret
        exact ⟨rfl, HB.out⟩
      | false =>
        rw [b5, b6, Bool.not_false, Bool.true_and, Bool.true_and] at hb
        have HB2 := Az.mk hb
        clear hb hi
        go_wp2
        go_roundg k
        case measure => have := HI.out; omega
        case rel => exact ⟨i + 1, congrArg (Value.int .i64) (wrap_next i (by have := HI.out; omega)), ⟨by have := HI.out; omega, HB2.out⟩, HB⟩) : p := h
theorem Name_calls (s : ByteArray) (b : Bool) (w : World) (h : nameB s = b) : Calls Tryz.prog 225 #[.string s] w fun e w' => e = .returned (.bool b) ∧ Up w w' := by
 unfold nameB at h
 by_cases c1 : (s.size : Int) ≠ 4
 ·rw [dFz c1] at h
  subst h
  have b1 : ((s.size : Int) == 4) = false := bqf c1
  have b2 : ((s.size : Int) != 4) = true := bne_iff_ne.mpr c1
  clear c1
  go_enter Tryz.func225, Tryz.ntmps225
  go_wp2
  go_ret
  exact ⟨rfl, up_refl _⟩
 replace c1 := Decidable.not_not.mp c1
 rw [dTz c1, Bool.true_and] at h
 have b1 : ((s.size : Int) == 4) = true := beq_iff_eq.mpr c1
 have b2 : ((s.size : Int) != 4) = false := bne_eq_false_iff_eq.mpr c1
 have p1 : 0 < (s.size : Int) := by omega
 have HS := Az.mk c1
 clear c1
 have hx5 : ∀ h : 0 < s.size, ((s[0]'h).toNat : Int) = bt s 0 := bt_at s 0
 cases b3 : decide (bt s 0 < 65) with
 | true =>
   rw [b3] at h
   subst h
   go_enter Tryz.func225, Tryz.ntmps225
   go_wp2
   go_ret
   exact ⟨rfl, up_refl _⟩
 | false =>
   cases b4 : decide (90 < bt s 0) with
   | true =>
     rw [b3, b4] at h
     subst h
     go_enter Tryz.func225, Tryz.ntmps225
     go_wp2
     go_ret
     exact ⟨rfl, up_refl _⟩
   | false =>
     rw [b3, b4, Bool.not_false, Bool.true_and, Bool.true_and] at h
     go_enter Tryz.func225, Tryz.ntmps225
     exact mrec_1
theorem RName_calls (s : ByteArray) (b : Bool) (w : World) (h : nameB s = b) : Calls Tryz.prog 176 #[.string s] w fun e w' => e = .returned (.bool b) ∧ Up w w' := by
 unfold nameB at h
 by_cases c1 : (s.size : Int) ≠ 4
 ·rw [dFz c1] at h
  subst h
  have b1 : ((s.size : Int) == 4) = false := bqf c1
  have b2 : ((s.size : Int) != 4) = true := bne_iff_ne.mpr c1
  clear c1
  go_enter Tryz.func176, Tryz.ntmps176
  go_wp2
  go_ret
  exact ⟨rfl, up_refl _⟩
 replace c1 := Decidable.not_not.mp c1
 rw [dTz c1, Bool.true_and] at h
 have b1 : ((s.size : Int) == 4) = true := beq_iff_eq.mpr c1
 have b2 : ((s.size : Int) != 4) = false := bne_eq_false_iff_eq.mpr c1
 have p1 : 0 < (s.size : Int) := by omega
 have HS := Az.mk c1
 clear c1
 have hx5 : ∀ h : 0 < s.size, ((s[0]'h).toNat : Int) = bt s 0 := bt_at s 0
 cases b3 : decide (bt s 0 < 65) with
 | true =>
   rw [b3] at h
   subst h
   go_enter Tryz.func176, Tryz.ntmps176
   go_wp2
   go_ret
   exact ⟨rfl, up_refl _⟩
 | false =>
   cases b4 : decide (90 < bt s 0) with
   | true =>
     rw [b3, b4] at h
     subst h
     go_enter Tryz.func176, Tryz.ntmps176
     go_wp2
     go_ret
     exact ⟨rfl, up_refl _⟩
   | false =>
     rw [b3, b4, Bool.not_false, Bool.true_and, Bool.true_and] at h
     go_enter Tryz.func176, Tryz.ntmps176
     exact mrec_1
theorem RFamily_calls (k : Int) (w : World) : Calls Tryz.prog 149 #[.int .i64 k] w fun e w' => e = .returned (.int .i64 (fam k)) ∧ Up w w' := by
 refine (endonymref6_Family.calls k _ w rfl).mono ?_
 rintro e w' ⟨rfl, h⟩
 exact ⟨rfl, h⟩
theorem Family_calls (k : Int) (w : World) : Calls Tryz.prog 167 #[.int .i64 k] w fun e w' => e = .returned (.int .i64 (fam k)) ∧ Up w w' := by
 by_cases hc : 1 ≤ k ∧ k ≤ 15
 ·have hc : k = 1 ∨ k = 2 ∨ k = 3 ∨ k = 4 ∨ k = 5 ∨ k = 6 ∨ k = 7 ∨ k = 8 ∨ k = 9 ∨ k = 10 ∨ k = 11 ∨ k = 12 ∨ k = 13 ∨ k = 14 ∨ k = 15 := by omega
  rcases hc with rfl | rfl | rfl | rfl | rfl | rfl | rfl | rfl | rfl | rfl | rfl | rfl | rfl | rfl | rfl <;>
   (go_enter Tryz.func167, Tryz.ntmps167; go_wp2; go_ret; exact ⟨rfl, up_refl _⟩)
 ·have hf : fam k = 0 := if_neg hc
  rw [hf]
  have e1 : (k == 1) = false := bqf (by omega)
  have e2 : (k == 2) = false := bqf (by omega)
  have e3 : (k == 3) = false := bqf (by omega)
  have e4 : (k == 4) = false := bqf (by omega)
  have e5 : (k == 5) = false := bqf (by omega)
  have e6 : (k == 6) = false := bqf (by omega)
  have e7 : (k == 7) = false := bqf (by omega)
  have e8 : (k == 8) = false := bqf (by omega)
  have e9 : (k == 9) = false := bqf (by omega)
  have e10 : (k == 10) = false := bqf (by omega)
  have e11 : (k == 11) = false := bqf (by omega)
  have e12 : (k == 12) = false := bqf (by omega)
  have e13 : (k == 13) = false := bqf (by omega)
  have e14 : (k == 14) = false := bqf (by omega)
  have e15 : (k == 15) = false := bqf (by omega)
  clear hc hf
  go_enter Tryz.func167, Tryz.ntmps167
  go_wp2
  go_ret
  exact ⟨rfl, up_refl _⟩
theorem Bits_calls (b : Nat) (w : World) : Calls Tryz.prog 165 #[.float .f64 b] w fun e w' => e = .returned (.int .u64 b) ∧ Up w w' := by
 refine (api_Bits.calls b _ w rfl).mono ?_
 rintro e w' ⟨rfl, h⟩
 exact ⟨rfl, h⟩
theorem weight_calls (u : Nat) (b : Bool) (w : World) (h : weightB u = b) : Calls Tryz.prog 177 #[.float .f64 u] w fun e w' => e = .returned (.bool b) ∧ Up w w' := by
 unfold weightB at h
 cases b1 : decide ((u : Int) ≤ 9218868437227405312) <;> rw [b1] at h <;> subst h <;>
  (go_enter Tryz.func177, Tryz.ntmps177; go_wp2_with (first | (go_at_call 165; refine (Bits_calls _ _).mono ?_; rintro e w1 ⟨rfl, hb1⟩)); go_ret; exact ⟨rfl, hb1⟩)
theorem order_self (b : Nat) : ((FloatKind.f64.format.order b b == some .eq) : Bool) = decide (b % 9223372036854775808 ≤ 9218868437227405312) := by
 show ((Ieee.double.read b).order (Ieee.double.read b) == some .eq) = _
 have h1 : Ieee.double.signWeight = 9223372036854775808 := by decide
 have h2 : Ieee.double.infRung = 9218868437227405312 := by decide
 unfold Ieee.Format.read
 simp only [h1, h2]
 split
 ·rename_i h
  have h3 : Ieee.double.binade = 4503599627370496 := by decide
  rw [dTz (by omega)]
  simp [Ieee.Datum.order]
 ·split
  ·rw [dTz (by omega)]
   simp [Ieee.Datum.order]
  ·split
   ·rw [dTz (by omega)]
    simp [Ieee.Datum.order]
   ·rw [dFz (by omega)]
    rfl
def rank (b : Nat) : Int := if b % 9223372036854775808 ≤ 9218868437227405312 then (if b < 9223372036854775808 then (b : Int) else 9223372036854775807 - b) else 9223372036854775807
theorem rank_calls (u : Nat) (w : World) (hu : u < 18446744073709551616) : Calls Tryz.prog 255 #[.float .f64 u] w fun e w' => e = .returned (.int .i64 (rank u)) ∧ Up w w' := by
 unfold rank
 have ho := order_self u
 by_cases c1 : u % 9223372036854775808 ≤ 9218868437227405312
 ·rw [if_pos c1]
  rw [dTz c1] at ho
  have ho2 : ((FloatKind.f64.format.order u u != some .eq) : Bool) = false := by rw [bne, ho]; rfl
  by_cases c2 : u < 9223372036854775808
  ·rw [if_pos c2]
   have hw : wrap64 (u : Int) = u := by unfold wrap64; omega
   have b2 : decide ((u : Int) < 0) = false := dFz (by omega)
   clear c1 c2
   go_enter Tryz.func255, Tryz.ntmps255
   go_wp2_with (first | (go_at_call 165; refine (Bits_calls _ _).mono ?_; rintro e w1 ⟨rfl, hb1⟩))
   go_ret
   exact ⟨congrArg (fun x => Ending.returned (Value.int .i64 x)) hw, hb1⟩
  ·rw [if_neg c2]
   have hw : wrap64 (u : Int) = (u : Int) - 18446744073709551616 := by unfold wrap64; omega
   have b2 : decide ((u : Int) - 18446744073709551616 < 0) = true := dTz (by omega)
   have c3 : ¬ u < 9223372036854775808 := c2
   clear c1 c2
   go_enter Tryz.func255, Tryz.ntmps255
   go_wp2_with (first | (go_at_call 165; refine (Bits_calls _ _).mono ?_; rintro e w1 ⟨rfl, hb1⟩))
   go_ret
   exact ⟨congrArg (fun x => Ending.returned (Value.int .i64 x)) (show -9223372036854775808 - ((u : Int) - 18446744073709551616) - 1 = 9223372036854775807 - (u : Int) by omega), hb1⟩
 ·rw [if_neg c1]
  rw [dFz c1] at ho
  have ho2 : ((FloatKind.f64.format.order u u != some .eq) : Bool) = true := by rw [bne, ho]; rfl
  clear c1
  go_enter Tryz.func255, Tryz.ntmps255
  go_wp2
  go_ret
  exact ⟨rfl, up_refl _⟩
theorem rank_calls' (u : Nat) (r : Int) (w : World) (hu : u < 18446744073709551616) (h : rank u = r) : Calls Tryz.prog 255 #[.float .f64 u] w fun e w' => e = .returned (.int .i64 r) ∧ Up w w' := by
 subst h
 exact rank_calls u w hu
theorem mrec_2 {p : Prop} (h : p := by
 go_enter Tryz.func249, Tryz.ntmps249
 go_wp2_with (first | (go_at_call 255; (with_reducible refine (rank_calls' u q _ hu HQ.out).mono ?_); rintro e w1 ⟨rfl, hb1⟩) | (go_at_call 255; (with_reducible refine (rank_calls' 0 0 _ hz0 HZ.out).mono ?_); rintro e w2 ⟨rfl, hb2⟩))
 go_ret
 exact ⟨rfl, up_trans hb1 hb2⟩) : p := h
theorem Order_calls (u : Nat) (r : Int) (w : World) (hu : u < 18446744073709551616) (h : (if rank u < 0 then -1 else if 0 < rank u then 1 else 0) = r) : Calls Tryz.prog 249 #[.float .f64 u, .float .f64 0] w fun e w' => e = .returned (.int .i64 r) ∧ Up w w' := by
 subst h
 have hz : rank 0 = 0 := by decide
 have hz0 : (0 : Nat) < 18446744073709551616 := by decide
 generalize hq : rank u = q
 have HZ := Az.mk hz
 have HQ := Az.mk hq
 clear hz hq
 by_cases c1 : q < 0
 ·rw [if_pos c1]
  have b1 := dTz c1
  clear c1
  exact mrec_2
 ·rw [if_neg c1]
  by_cases c2 : 0 < q
  ·rw [if_pos c2]
   have b1 := dFz c1
   have b2 := dTz c2
   clear c1 c2
   exact mrec_2
  ·rw [if_neg c2]
   have b1 := dFz c1
   have b2 := dFz c2
   clear c1 c2
   exact mrec_2
theorem weighs_calls (x : Rec) (A : Option Addr) (c : Nat) (b : Bool) (w : World) (hu : x.weight < 18446744073709551616) (h : weightB x.weight = b) : Calls Tryz.prog 226 #[recV x A c] w fun e w' => e = .returned (.bool b) ∧ Up w w' := by
 have hu96 := Tryz.underlying113
 have ho := order_self x.weight
 by_cases c1 : x.weight % 9223372036854775808 ≤ 9218868437227405312
 ·rw [dTz c1] at ho
  have hr : (if rank x.weight < 0 then (-1 : Int) else if 0 < rank x.weight then 1 else 0) = if b = true then (if 0 < rank x.weight then 1 else 0) else -1 := by
   subst h
   unfold rank weightB
   rw [if_pos c1]
   simp only [decide_eq_true_eq]
   by_cases c2 : x.weight < 9223372036854775808
   ·have e1 : ¬ ((x.weight : Int) < 0) := by omega
    have e2 : (x.weight : Int) ≤ 9218868437227405312 := by omega
    rw [if_pos c2, if_neg e1, if_pos e2]
   ·have e1 : (9223372036854775807 - x.weight : Int) < 0 := by omega
    have e2 : ¬ ((x.weight : Int) ≤ 9218868437227405312) := by omega
    rw [if_neg c2, if_pos e1, if_neg e2]
  have hb0 : decide ((if b = true then (if 0 < rank x.weight then (1 : Int) else 0) else -1) ≥ 0) = b := by
   cases b <;> simp <;> split <;> omega
  generalize hq : (if b = true then (if 0 < rank x.weight then (1 : Int) else 0) else -1) = q at hr hb0
  clear hq c1 h
  have hr' := Az.mk hr
  clear hr
  go_enter Tryz.func226, Tryz.ntmps226
  go_wp2_with (first | (go_at_call 249; refine (Order_calls x.weight q _ hu hr'.out).mono ?_; rintro e w1 ⟨rfl, hb1⟩))
  go_ret
  exact ⟨rfl, up_trans (up_alloc (up_refl _) _) hb1⟩
 ·rw [dFz c1] at ho
  have hb : b = false := by subst h; unfold weightB; exact dFz (by omega)
  subst hb
  clear c1 h
  go_enter Tryz.func226, Tryz.ntmps226
  go_wp2
  go_ret
  exact ⟨rfl, up_alloc (up_refl _) _⟩
theorem shifts_calls (x : Rec) (A : Option Addr) (c : Nat) (b : Bool) (w : World) (hr : Ints .i32 w A x.to) (h : shiftsB x = b) : Calls Tryz.prog 222 #[recV x A c] w fun e w' => e = .returned (.bool b) ∧ Up w w' := by
 have hu96 := Tryz.underlying113
 have HR := Az.mk hr
 clear hr
 unfold shiftsB at h
 have HK := recBox_new w x A c
 cases b1 : (decide (1 ≤ x.n) && decide (x.n ≤ 64)) with
 | false =>
   rw [b1] at h
   subst h
   go_enter Tryz.func222, Tryz.ntmps222
   go_wp2_with (first | (go_at_call 224; refine (between_calls _ _ _ _ _ _ _ b1).mono ?_; rintro e w1 ⟨rfl, hb1⟩))
   go_ret
   exact ⟨rfl, up_trans (up_alloc (up_refl _) _) hb1⟩
 | true =>
   rw [b1, Bool.true_and] at h
   by_cases c2 : x.to.length = 1
   ·rw [dTz c2, Bool.true_and] at h
    have e2 : ((x.to.length : Int) == 1) = true := beq_iff_eq.mpr (by omega)
    have e3 : ((x.to.length : Int) != 1) = false := bne_eq_false_iff_eq.mpr (by omega)
    obtain ⟨ad, hA, hx⟩ := HR.out.at_ 0 (by omega) (by omega)
    subst hA
    replace hx : w.cell? ad = some (.int .i32 (rd x.to 0)) := hx
    have hx1 := up_cell (up_alloc (up_refl w) (recO x (some ad) c)) hx
    have p0 : (0 : Int) < (x.to.length : Int) := by omega
    have p1 : 0 < x.to.length := by omega
    clear c2
    cases b3 : validB (rd x.to 0) with
    | false =>
      rw [b3] at h
      subst h
      go_enter Tryz.func222, Tryz.ntmps222
      go_wp2_with (first | (go_at_call 224; refine (between_calls _ _ _ _ _ _ _ b1).mono ?_; rintro e w1 ⟨rfl, hb1⟩; obtain ⟨k0, k1, k2, k3, k4, k5, k6, k7⟩ := HK.keep hb1; replace hx1 := up_cell hb1 hx1) | (go_at_call 248; refine (Valid_calls _ _ _ b3).mono ?_; rintro e w2 ⟨rfl, hb2⟩))
      go_ret
      exact ⟨rfl, up_trans (up_trans (up_alloc (up_refl _) _) hb1) hb2⟩
    | true =>
      rw [b3, Bool.true_and] at h
      go_enter Tryz.func222, Tryz.ntmps222
      go_wp2_with (first | (go_at_call 224; refine (between_calls _ _ _ _ _ _ _ b1).mono ?_; rintro e w1 ⟨rfl, hb1⟩; obtain ⟨k0, k1, k2, k3, k4, k5, k6, k7⟩ := HK.keep hb1; replace hx1 := up_cell hb1 hx1) | (go_at_call 248; (with_reducible refine (Valid_calls _ _ _ b3).mono ?_); rintro e w2 ⟨rfl, hb2⟩; obtain ⟨j0, j1, j2, j3, j4, j5, j6, j7⟩ := (HK.keep hb1).keep hb2; replace hx1 := up_cell hb2 hx1))
      go_quiet (first | (go_at_call 224; refine (between_calls _ _ _ _ _ _ _ b1).mono ?_; rintro e w1 ⟨rfl, hb1⟩; obtain ⟨k0, k1, k2, k3, k4, k5, k6, k7⟩ := HK.keep hb1; replace hx1 := up_cell hb1 hx1) | (go_at_call 248; (with_reducible refine (Valid_calls _ _ _ b3).mono ?_); rintro e w2 ⟨rfl, hb2⟩; obtain ⟨j0, j1, j2, j3, j4, j5, j6, j7⟩ := (HK.keep hb1).keep hb2; replace hx1 := up_cell hb2 hx1))
      go_wp2_with ((go_at_call 248; (with_reducible refine (Valid_calls _ _ _ rfl).mono ?_); rintro e w3 ⟨rfl, hb3⟩; replace hb3 := up_trans (up_drewN (up_refl w2) _) hb3; replace hx1 := up_cell hb3 hx1; replace j4 := up_cell hb3 j4))
      all_goals go_ret
      all_goals refine ⟨congrArg (fun b => Ending.returned (Value.bool b)) ?_, up_trans (up_trans (up_trans (up_alloc (up_refl _) _) hb1) hb2) hb3⟩
      all_goals subst h
      all_goals simp_all
   ·rw [dFz c2] at h
    subst h
    have e2 : ((x.to.length : Int) == 1) = false := bqf (by omega)
    have e3 : ((x.to.length : Int) != 1) = true := bne_iff_ne.mpr (by omega)
    clear c2
    go_enter Tryz.func222, Tryz.ntmps222
    go_wp2_with (first | (go_at_call 224; refine (between_calls _ _ _ _ _ _ _ b1).mono ?_; rintro e w1 ⟨rfl, hb1⟩; obtain ⟨k0, k1, k2, k3, k4, k5, k6, k7⟩ := HK.keep hb1))
    go_ret
    exact ⟨rfl, up_trans (up_alloc (up_refl _) _) hb1⟩
theorem bare_calls (x : Rec) (A : Option Addr) (c : Nat) (n tt nm ot wt : Bool) (b : Bool) (w : World) (h : bareB x n tt nm ot wt = b) : Calls Tryz.prog 175 #[recV x A c, .bool n, .bool tt, .bool nm, .bool ot, .bool wt] w fun e w' => e = .returned (.bool b) ∧ Up w w' := by
 have hu96 := Tryz.underlying113
 have H := Az.mk h
 clear h
 go_enter Tryz.func175, Tryz.ntmps175
 go_wp2_with (first | (go_at_call 165; refine (Bits_calls _ _).mono ?_; rintro e w1 ⟨rfl, hb1⟩))
 all_goals go_ret
 all_goals refine ⟨congrArg (fun b => Ending.returned (Value.bool b)) ?_, by first | exact up_alloc (up_refl _) _ | exact up_trans (up_alloc (up_refl _) _) ‹_›⟩
 all_goals have h := H.out
 all_goals clear H hu96
 all_goals try clear hb1
 all_goals subst h
 all_goals simp_all [bareB]
theorem nothing_calls (x : Rec) (A : Option Addr) (c : Nat) (n tt nm wt : Bool) (b : Bool) (w : World) (h : bareB x (!n) (!tt) (!nm) (decide (x.kind = 15)) (!wt) = b) : Calls Tryz.prog 220 #[.agg #[.bool n, .bool tt, .bool nm, .bool wt], recV x A c] w fun e w' => e = .returned (.bool b) ∧ Up w w' := by
 have hu96 := Tryz.underlying113
 have hu215 := Tryz.underlying238
 have H := Az.mk h
 clear h
 go_enter Tryz.func220, Tryz.ntmps220
 go_wp2_with (first | (go_at_call 165; refine (Bits_calls _ _).mono ?_; rintro e w1 ⟨rfl, hb1⟩))
 all_goals go_ret
 all_goals refine ⟨congrArg (fun b => Ending.returned (Value.bool b)) ?_, by first | exact up_alloc (up_alloc (up_refl _) _) _ | exact up_trans (up_alloc (up_alloc (up_refl _) _) _) ‹_›⟩
 all_goals have h := H.out
 all_goals clear H hu96 hu215
 all_goals try clear hb1
 all_goals subst h
 all_goals simp_all [bareB]
 all_goals first | rfl | (intro hh; exact absurd ‹0 < x.to.length› (by simp [hh]))
end Go.Proofs.YtnohcnneflogjaaGreat.M
