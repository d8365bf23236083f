/- bidi.Has, walked. -/
import Derived.Test.YthneeainigdmhaaGreatPJoin1
import Derived.Test.YthneeainigdmhaaGreatPBidiP
set_option linter.unusedVariables false
set_option linter.unusedSimpArgs false
namespace Go.Proofs.YthneeainigdmhaaGreat.M
open Go.RowKit
set_option maxHeartbeats 8000000
set_option maxRecDepth 100000

abbrev bdF (T : List Rec) : Int → Int := numF T 4 (·.n)
section
variable {H : Nat} {w : World} {bd : Nat} {D : DataV} {T : List Rec}
theorem Has_calls (hD : DataAt H w bd D T) (hG : Good T) (A : Option Addr) (c : Nat) (x : List Int) (hI : Ints .i32 w A x) (hx : x.length < 4611686018427387904) (hwf : ∀ z ∈ x, (Lit.int .i32 z).wf = true) (b : Bool) (hb : hasF (bdF T) x = b) :
    Calls Tryz.prog 48 #[.pointer (some ⟨bd, 0, none⟩), .slice A x.length c] w fun e w' => e = .returned (.bool b) ∧ Up w w' := by
  have HD := Aside0.mk hD
  have HG := Aside0.mk hG
  have HI := Aside0.mk hI
  have HX := Aside0.mk hx
  have HWF := Aside0.mk hwf
  have HR := Aside0.mk hb
  clear hD hG hI hx hwf hb
  go_enter Tryz.func48, Tryz.ntmps48
  go_wp2
  go_loopg [6, 11] x.length (fun k v6 v11 w' => ∃ i : Nat, v11 = .int .i64 i ∧ Aside0 (i + k = x.length ∧ hasF (bdF T) (x.drop i) = b) ∧ Aside0 (Up w w'))
  case atStart => exact ⟨0, rfl, ⟨Nat.zero_add _, HR.out⟩, ⟨up_refl _⟩⟩
  case round =>
    obtain ⟨i, rfl, HN, HB⟩ := hrel
    cases gk with
    | zero =>
      have hlt : decide ((i : Int) < (x.length : Int)) = false := decide_eq_false (by have := HN.out; omega)
      have hlt1 : ¬ (i < x.length) := by have := HN.out; omega
      have hr := HN.out.2
      rw [List.drop_of_length_le (by omega)] at hr
      have hr : false = b := hr
      subst hr
      go_wp2
      go_ret
      exact ⟨rfl, HB.out⟩
    | succ k =>
      have hlt : decide ((i : Int) < (x.length : Int)) = true := decide_eq_true (by have := HN.out; omega)
      have hlt1 : i < x.length := by have := HN.out; omega
      have hxl : x.length < 4611686018427387904 := HX.out
      have h7 : 0 ≤ (i : Int) := by omega
      have h9 : (i : Int) < (x.length : Int) := by omega
      have hr := HN.out.2
      rw [has_step _ _ _ hlt1] at hr
      obtain ⟨ad, hA, hc⟩ := HI.out.at_ i h7 h9
      rw [Int.toNat_natCast] at hc
      replace hc := up_cell HB.out hc
      subst hA
      have HAR : Aside0 (-2147483648 ≤ rd x i ∧ rd x i ≤ 2147483647) := ⟨rd_wf HWF.out i⟩
      obtain ⟨a, ha⟩ : ∃ a, rd x i = a := ⟨_, rfl⟩
      rw [ha] at hc hr HAR
      obtain ⟨y, hy⟩ : ∃ y, bdF T a = y := ⟨_, rfl⟩
      have HY := Aside0.mk hy
      rw [hy] at hr
      obtain ⟨⟨a0, a1, a2, a3, a4, a5, a6⟩, _⟩ := (HD.out.up HB.out).all
      have HR2 := Aside0.mk hr
      clear hr hy ha
      cases e1 : (y == 1) <;> cases e2 : (y == 2) <;> cases e3 : (y == 3)
      case false.false.false =>
        have HR3 : Aside0 (hasF (bdF T) (x.drop (i + 1)) = b) := ⟨by have := HR2.out; unfold rtl at this; rw [e1, e2, e3] at this; simpa using this⟩
        go_wp2_with (first | (go_at_call 34; (with_reducible refine ((HD.out.up HB.out).Bidi HG.out a y HY.out HAR.out.1 HAR.out.2).mono ?_); rintro e w1 ⟨rfl, hup1⟩; have HU1 := Aside0.mk hup1; clear hup1))
        go_roundg k
        case measure => have := HN.out; omega
        case rel => exact ⟨i + 1, rfl, ⟨by have := HN.out; omega, HR3.out⟩, ⟨up_trans HB.out HU1.out⟩⟩
      all_goals
        have hr3 : true = b := by have := HR2.out; unfold rtl at this; rw [e1, e2, e3] at this; simpa using this
        subst hr3
        go_wp2_with (first | (go_at_call 34; (with_reducible refine ((HD.out.up HB.out).Bidi HG.out a y HY.out HAR.out.1 HAR.out.2).mono ?_); rintro e w1 ⟨rfl, hup1⟩; have HU1 := Aside0.mk hup1; clear hup1))
        go_ret
        exact ⟨rfl, up_trans HB.out HU1.out⟩
end
theorem Has_nil (A : Option Addr) (n c : Nat) (w : World) : Calls Tryz.prog 48 #[.pointer none, .slice A n c] w fun e w' => e = .returned (.bool false) ∧ w' = w := by
  go_enter Tryz.func48, Tryz.ntmps48
  go_wp2
  go_ret
  exact ⟨rfl, rfl⟩
end Go.Proofs.YthneeainigdmhaaGreat.M
