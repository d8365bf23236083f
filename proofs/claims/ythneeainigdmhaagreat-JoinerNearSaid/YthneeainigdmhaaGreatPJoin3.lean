/- joiner.Check, walked. -/
import Derived.Test.YthneeainigdmhaaGreatPJoin2
set_option linter.unusedVariables false
set_option linter.unusedSimpArgs false
namespace Go.Proofs.YthneeainigdmhaaGreat.M
open Go.RowKit
set_option maxHeartbeats 8000000
set_option maxRecDepth 100000

section
variable {H : Nat} {w : World} {bd : Nat} {D : DataV} {T : List Rec}
theorem JCheck_calls (hD : DataAt H w bd D T) (hG : Good T) (A : Option Addr) (c : Nat) (x : List Int) (hI : Ints .i32 w A x) (hx : x.length < 4611686018427387904) (hwf : ∀ z ∈ x, (Lit.int .i32 z).wf = true) (r : Int) (hr : checkJ (jnF T) (clF T) x = r) :
    Calls Tryz.prog 23 #[.pointer (some ⟨bd, 0, none⟩), .slice A x.length c] w fun e w' => e = .returned (.int .i64 r) ∧ Up w w' := by
  have HD := Aside0.mk hD
  have HG := Aside0.mk hG
  have HI := Aside0.mk hI
  have HX := Aside0.mk hx
  have HWF := Aside0.mk hwf
  have HR := Aside0.mk hr
  clear hD hG hI hx hwf hr
  go_enter Tryz.func23, Tryz.ntmps23
  go_wp2
  go_loopg [5, 8] x.length (fun k v5 v8 w' => ∃ i : Nat, v8 = .int .i64 i ∧ Aside0 (i + k = x.length ∧ badJ (jnF T) (clF T) x k i = r) ∧ Aside0 (Up w w'))
  case atStart => exact ⟨0, rfl, ⟨Nat.zero_add _, HR.out⟩, ⟨up_refl _⟩⟩
  case round =>
    obtain ⟨i, rfl, HN, HB⟩ := hrel
    cases gk with
    | zero =>
      have hlt : decide ((i : Int) < (x.length : Int)) = false := decide_eq_false (by have := HN.out; omega)
      have hlt1 : ¬ (i < x.length) := by have := HN.out; omega
      have hr : (-1 : Int) = r := HN.out.2
      subst hr
      go_wp2
      go_ret
      exact ⟨rfl, HB.out⟩
    | succ k =>
      have hlt : decide ((i : Int) < (x.length : Int)) = true := decide_eq_true (by have := HN.out; omega)
      have hlt1 : i < x.length := by have := HN.out; omega
      have hxl : x.length < 4611686018427387904 := HX.out
      have hr : (if fitsF (jnF T) (clF T) x i = true then badJ (jnF T) (clF T) x k (i + 1) else (i : Int)) = r := HN.out.2
      cases hf : fitsF (jnF T) (clF T) x i with
      | true =>
        have HF := Aside0.mk hf
        rw [if_pos hf] at hr
        have HR2 := Aside0.mk hr
        clear hf hr
        go_wp2_with (first | (go_at_call 25; (with_reducible refine (Fits_calls (HD.out.up HB.out) HG.out A c x i (HI.out.up HB.out) HX.out HWF.out true HF.out).mono ?_); rintro e w1 ⟨rfl, hup1⟩; have HU1 := Aside0.mk hup1; clear hup1))
        go_roundg k
        case measure => have := HN.out; omega
        case rel => exact ⟨i + 1, rfl, ⟨by have := HN.out; omega, HR2.out⟩, ⟨up_trans HB.out HU1.out⟩⟩
      | false =>
        have HF := Aside0.mk hf
        rw [if_neg (by rw [hf]; decide)] at hr
        subst hr
        clear hf
        go_wp2_with (first | (go_at_call 25; (with_reducible refine (Fits_calls (HD.out.up HB.out) HG.out A c x i (HI.out.up HB.out) HX.out HWF.out false HF.out).mono ?_); rintro e w1 ⟨rfl, hup1⟩; have HU1 := Aside0.mk hup1; clear hup1))
        go_ret
        exact ⟨rfl, up_trans HB.out HU1.out⟩
end
theorem Fits_nil (A : Option Addr) (n c : Nat) (i : Int) (w : World) : Calls Tryz.prog 25 #[.pointer none, .slice A n c, .int .i64 i] w fun e w' => e = .returned (.bool false) ∧ w' = w := by
  go_enter Tryz.func25, Tryz.ntmps25
  go_wp2
  go_ret
  exact ⟨rfl, rfl⟩
theorem JCheck_nil (A : Option Addr) (n c : Nat) (w : World) : Calls Tryz.prog 23 #[.pointer none, .slice A (n + 1) c] w fun e w' => e = .returned (.int .i64 0) ∧ w' = w := by
  go_enter Tryz.func23, Tryz.ntmps23
  go_wp2
  go_loopg [5, 8] 1 (fun k v5 v8 w' => v8 = .int .i64 0 ∧ w' = w)
  case atStart => exact ⟨rfl, rfl⟩
  case round =>
    obtain ⟨rfl, rfl⟩ := hrel
    have hlt : decide ((0 : Int) < ((n + 1 : Nat) : Int)) = true := decide_eq_true (by omega)
    go_wp2_with (first | (go_at_call 25; (with_reducible refine (Fits_nil _ _ _ _ _).mono ?_); rintro e w1 ⟨rfl, rfl⟩))
    go_ret
    exact ⟨rfl, rfl⟩
theorem JCheck_none (p : Value) (w : World) : Calls Tryz.prog 23 #[p, .slice none 0 0] w fun e w' => e = .returned (.int .i64 (-1)) ∧ w' = w := by
  go_enter Tryz.func23, Tryz.ntmps23
  go_wp2
  go_loopg [5, 8] 0 (fun k v5 v8 w' => v8 = .int .i64 0 ∧ w' = w)
  case atStart => exact ⟨rfl, rfl⟩
  case round =>
    obtain ⟨rfl, rfl⟩ := hrel
    go_wp2
    go_ret
    exact ⟨rfl, rfl⟩
end Go.Proofs.YthneeainigdmhaaGreat.M
