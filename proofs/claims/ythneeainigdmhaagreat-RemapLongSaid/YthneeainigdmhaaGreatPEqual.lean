/- slices.Equal of two rows of numbers, walked. (printed by mkset15.py) -/
import Derived.Test.YthneeainigdmhaaGreatPSameB
set_option linter.unusedVariables false
set_option linter.unusedSimpArgs false
namespace Go.Proofs.YthneeainigdmhaaGreat.M
open Go.RowKit
set_option maxHeartbeats 8000000
set_option maxRecDepth 100000

theorem Equal_calls (A B : Option Addr) (ca cb : Nat) (X Y : List Int) (w : World) (hA : Ints .i32 w A X) (hB : Ints .i32 w B Y) (hx : X.length ≤ 35184372087808) (hy : Y.length ≤ 35184372087808) (b : Bool) (hb : (X == Y) = b) :
    Calls Tryz.prog 107 #[.slice A X.length ca, .slice B Y.length cb] w fun e w' => e = .returned (.bool b) ∧ Up w w' := by
  have HA := Aside0.mk hA
  have HB := Aside0.mk hB
  have HR := Aside0.mk hb
  clear hA hB hb
  by_cases hl : X.length = Y.length
  · have t0 : ((X.length : Int) != (Y.length : Int)) = false := by simp [hl]
    have HL := Aside0.mk hl
    clear hl
    go_enter Tryz.func107, Tryz.ntmps107
    go_wp2
    go_loopg [5, 13] X.length (fun k v5 v13 w' => ∃ i : Nat, v13 = .int .i64 i ∧ Aside0 (i + k = X.length ∧ (X.drop i == Y.drop i) = b) ∧ Aside0 (∃ q, w' = w.drewN q))
    case atStart => exact ⟨0, rfl, ⟨Nat.zero_add _, HR.out⟩, ⟨0, rfl⟩⟩
    case round =>
      obtain ⟨i, rfl, HI, HQ⟩ := hrel
      have HU : Aside0 (Up w wr) := ⟨by obtain ⟨q, hq⟩ := HQ.out; rw [hq]; exact up_drewN (up_refl _) _⟩
      have hi := HI.out.1
      cases gk with
      | zero =>
        have hlt : decide ((i : Int) < (X.length : Int)) = false := decide_eq_false (by omega)
        have hln : decide (i < X.length) = false := decide_eq_false (by omega)
        have hr := HI.out.2
        rw [List.drop_of_length_le (by omega), List.drop_of_length_le (by have := HL.out; omega)] at hr
        have hr : true = b := hr
        subst hr
        clear hi
        go_wp2
        go_ret
        exact ⟨rfl, HU.out⟩
      | succ k =>
        have hlt : decide ((i : Int) < (X.length : Int)) = true := decide_eq_true (by omega)
        have hln : decide (i < X.length) = true := decide_eq_true (by omega)
        have p1 : 0 ≤ (i : Int) := by omega
        have p2 : (i : Int) < (X.length : Int) := by omega
        have p3 : (i : Int) < (Y.length : Int) := by have := HL.out; omega
        have hr := HI.out.2
        rw [beq_drop X Y i (by omega) (by omega)] at hr
        obtain ⟨ad, hAx, hc⟩ := Ints.at_ HA.out i p1 p2
        obtain ⟨bd, hBx, hd⟩ := Ints.at_ HB.out i p1 p3
        subst hAx
        subst hBx
        replace hc := up_cell HU.out hc
        replace hd := up_cell HU.out hd
        rw [Int.toNat_natCast] at hc hd
        obtain ⟨x, hx0⟩ : ∃ x, rd X i = x := ⟨_, rfl⟩
        obtain ⟨y, hy0⟩ : ∃ y, rd Y i = y := ⟨_, rfl⟩
        rw [hx0] at hc hr
        rw [hy0] at hd hr
        clear hi hx0 hy0
        by_cases he : x = y
        · subst he
          have HR2 : Aside0 ((X.drop (i + 1) == Y.drop (i + 1)) = b) := ⟨by rw [← hr]; simp⟩
          clear hr
          go_wp2
          go_quiet (fail)
          go_wp2
          go_roundg k
          case measure => have := HI.out; omega
          case rel => exact ⟨i + 1, rfl, ⟨by have := HI.out; omega, HR2.out⟩, ⟨by obtain ⟨q, hq⟩ := HQ.out; exact ⟨q + nq, by rw [hq, World.drewN_drewN]⟩⟩⟩
        · have hr2 : false = b := by rw [← hr]; simp [he]
          have e1 : (x != y) = true := bne_iff_ne.mpr he
          have e2 : (x == y) = false := beq_eq_false_iff_ne.mpr he
          subst hr2
          clear he hr
          go_wp2
          go_quiet (fail)
          go_wp2
          go_ret
          exact ⟨rfl, up_drewN HU.out _⟩
  · have t0 : ((X.length : Int) != (Y.length : Int)) = true := bne_iff_ne.mpr (by omega)
    have hr : false = b := by
      rw [← HR.out]
      symm
      exact beq_eq_false_iff_ne.mpr (fun h => hl (by rw [h]))
    subst hr
    clear hl
    go_enter Tryz.func107, Tryz.ntmps107
    go_wp2
    go_ret
    exact ⟨rfl, up_refl _⟩
theorem EqualN_calls (A B : Option Addr) (n m ca cb : Nat) (X Y : List Int) (w : World) (hA : Ints .i32 w A X) (hB : Ints .i32 w B Y) (hn : X.length = n) (hm : Y.length = m) (hx : n ≤ 35184372087808) (hy : m ≤ 35184372087808) (b : Bool) (hb : (X == Y) = b) :
    Calls Tryz.prog 107 #[.slice A n ca, .slice B m cb] w fun e w' => e = .returned (.bool b) ∧ Up w w' := by
  subst hn
  subst hm
  exact Equal_calls A B ca cb X Y w hA hB hx hy b hb
end Go.Proofs.YthneeainigdmhaaGreat.M
