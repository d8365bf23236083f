/- JoinerFits, walked. -/
import Derived.Test.YtfoldfaeelggoaaGreatPRFits
import Derived.Test.YtfoldfaeelggoaaGreatPTried
import Derived.Test.YtfoldfaeelggoaaGreatPTold16
import Derived.Test.YtfoldfaeelggoaaGreatPFew
set_option linter.unusedVariables false
set_option linter.unusedSimpArgs false
namespace Go.Proofs.YtfoldfaeelggoaaGreat.M
open Go.RowKit
set_option maxHeartbeats 8000000
set_option maxRecDepth 100000

theorem RCheck16_calls (A : Option Addr) (c : Nat) (T : List Rec) (Ax : Option Addr) (cx : Nat) (x : List Int) (w : World) (hT : Table w A T) (hR : ∀ x ∈ T, Right x) (hW : ∀ x ∈ T, x.Wf) (hl : T.length ≤ 4096)
    (hI : Ints .i32 w Ax x) (hx : x.length < 4611686018427387904) (hwf : ∀ z ∈ x, (Lit.int .i32 z).wf = true) (r : Int) (hr : checkJ (jnF T) (clF T) x = r) :
    Calls Tryz.prog 27 #[.slice A T.length c, .slice Ax x.length cx] w fun e w' => e = .returned (.int .i64 r) ∧ Up w w' := by
  have HT := Aside0.mk hT
  have HRT := Aside0.mk hR
  have HW := Aside0.mk hW
  have HL := Aside0.mk hl
  have HI := Aside0.mk hI
  have HX := Aside0.mk hx
  have HWF := Aside0.mk hwf
  have HR := Aside0.mk hr
  clear hT hR hW hI hx hwf hr hl
  go_enter Tryz.func27, Tryz.ntmps27
  go_wp2
  go_loopg [5] x.length (fun k v5 w' => ∃ i : Nat, v5 = .int .i64 i ∧ Aside0 (i + k = x.length ∧ badJ (jnF T) (clF T) x k i = r) ∧ Aside0 (Up w w'))
  case atStart => exact ⟨0, rfl, ⟨Nat.zero_add _, HR.out⟩, ⟨up_refl _⟩⟩
  case round =>
    obtain ⟨i, rfl, HN, HB⟩ := hrel
    cases gk with
    | zero =>
      have hlt : decide ((i : Int) < (x.length : Int)) = false := decide_eq_false (by have := HN.out; omega)
      have hlt1 : ¬ (i < x.length) := by have := HN.out; omega
      have hr : (-1 : Int) = r := HN.out.2
      subst hr
      go_wp2
      go_ret
      exact ⟨rfl, HB.out⟩
    | succ k =>
      have hlt : decide ((i : Int) < (x.length : Int)) = true := decide_eq_true (by have := HN.out; omega)
      have hlt1 : i < x.length := by have := HN.out; omega
      have hxl : x.length < 4611686018427387904 := HX.out
      have hr : (if fitsF (jnF T) (clF T) x i = true then badJ (jnF T) (clF T) x k (i + 1) else (i : Int)) = r := HN.out.2
      cases hf : fitsF (jnF T) (clF T) x i with
      | true =>
        have HF := Aside0.mk hf
        rw [if_pos hf] at hr
        have HR2 := Aside0.mk hr
        clear hf hr
        go_wp2_with (first | (go_at_call 25; (with_reducible refine (RFits_calls A c T Ax cx x i _ (HT.out.up HB.out) HRT.out HW.out HL.out (HI.out.up HB.out) HX.out HWF.out true HF.out).mono ?_); rintro e w1 ⟨rfl, hup1⟩; have HU1 := Aside0.mk hup1; clear hup1))
        go_roundg k
        case measure => have := HN.out; omega
        case rel => exact ⟨i + 1, rfl, ⟨by have := HN.out; omega, HR2.out⟩, ⟨up_trans HB.out HU1.out⟩⟩
      | false =>
        have HF := Aside0.mk hf
        rw [if_neg (by rw [hf]; decide)] at hr
        subst hr
        clear hf
        go_wp2_with (first | (go_at_call 25; (with_reducible refine (RFits_calls A c T Ax cx x i _ (HT.out.up HB.out) HRT.out HW.out HL.out (HI.out.up HB.out) HX.out HWF.out false HF.out).mono ?_); rintro e w1 ⟨rfl, hup1⟩; have HU1 := Aside0.mk hup1; clear hup1))
        go_ret
        exact ⟨rfl, up_trans HB.out HU1.out⟩
theorem few16_100 (A : Option Addr) (c : Nat) (x y : List Int) (w : World) (hI : Ints .i32 w A x) (hx : x.length < 4611686018427387904) (hc : x.length ≤ c) (hy : x.take 100 = y) :
    Calls Tryz.prog 23 #[.slice A x.length c, .int .i64 100] w (RetRow y w) := few16_calls A c x y 100 w hI hx hc (by decide) hy
theorem JoinerFits_no (A : Option Addr) (c : Nat) (T : List Rec) (A2 : Option Addr) (n2 c2 : Nat) (i : Int) (w : World) (hT : Table w A T) (hW : ∀ x ∈ T, x.Wf) (hc : T.length ≤ c) (he : (checkE (T.take 150)).2 ≠ 0) :
    Calls Tryz.prog 4 #[.slice A T.length c, .slice A2 n2 c2, .int .i64 i] w fun e w' => e = .returned (.bool true) ∧ Up w w' := by
  have HM := Aside0.mk (Made_no A c T w hT hW hc he)
  clear hT hW hc he
  go_enter Tryz.func4, Tryz.ntmps4
  go_wp2_with (first | (go_at_call 15; (with_reducible refine HM.out.mono ?_); rintro e w1 ⟨rfl, hup1⟩) | (go_at_call 22; (with_reducible refine (told16_calls _).mono ?_); rintro e w2 ⟨rfl, hup2⟩))
  go_ret
  exact ⟨rfl, up_trans hup1 hup2⟩
theorem JoinerFits_yes (A : Option Addr) (c : Nat) (T P : List Rec) (A2 : Option Addr) (x y : List Int) (c2 : Nat) (i : Int) (w : World) (hP : T.take 150 = P) (hT : Table w A T) (hW : ∀ x ∈ T, x.Wf) (hc : T.length ≤ c) (he : (checkE P).2 = 0)
    (hI : Ints .i32 w A2 x) (hx : x.length < 4611686018427387904) (hc2 : x.length ≤ c2) (hwf : ∀ z ∈ x, (Lit.int .i32 z).wf = true) (hy : x.take 100 = y) :
    Calls Tryz.prog 4 #[.slice A T.length c, .slice A2 x.length c2, .int .i64 i] w fun e w' => e = .returned (.bool true) ∧ Up w w' := by
  have HM := Aside0.mk (Made_yes A c T P w hP hT hW hc he)
  have hWP : ∀ x ∈ P, x.Wf := fun x hx => hW x (by rw [← hP] at hx; exact List.mem_of_mem_take hx)
  have HG := Aside0.mk (fine_of hWP he).toGood
  have HW := Aside0.mk hWP
  have HL : Aside0 (P.length ≤ 4096) := ⟨by rw [← hP, List.length_take]; omega⟩
  have HI := Aside0.mk hI
  have HX := Aside0.mk hx
  have HC2 := Aside0.mk hc2
  have HY := Aside0.mk hy
  have HWF : Aside0 (∀ z ∈ y, (Lit.int .i32 z).wf = true) := ⟨fun z hz => hwf z (by rw [← hy] at hz; exact List.mem_of_mem_take hz)⟩
  have hyl : y.length ≤ 100 := by rw [← hy, List.length_take]; omega
  have HYL : Aside0 (y.length < 4611686018427387904) := ⟨by omega⟩
  have HY1 := Aside0.mk hyl
  obtain ⟨b, hb⟩ : ∃ b, fitsF (jnF P) (clF P) y i = b := ⟨_, rfl⟩
  obtain ⟨r, hr⟩ : ∃ r, checkJ (jnF P) (clF P) y = r := ⟨_, rfl⟩
  have HB0 := Aside0.mk hb
  have HR0 := Aside0.mk hr
  clear hT hW hc he hI hWP hP hx hc2 hy hwf hyl hb hr
  go_enter Tryz.func4, Tryz.ntmps4
  go_wp2_with (first | (go_at_call 15; (with_reducible refine HM.out.mono ?_); rintro e w1 ⟨bd, D, A3, c3, rfl, hD, hTab, hup1⟩; have HD := Aside0.mk hD; have HT := Aside0.mk hTab; have HU1 := Aside0.mk hup1; clear hD hTab hup1) | (go_at_call 23; (with_reducible refine (few16_100 A2 c2 x y _ (HI.out.up HU1.out) HX.out HC2.out HY.out).mono ?_); rintro e w2 ⟨v2, rfl, hown2, hup2⟩; obtain ⟨A4, c4, rfl, hi4, _⟩ := own_ints hown2; have HU2 := Aside0.mk hup2; have HI4 := Aside0.mk hi4; clear hown2 hup2 hi4))
  go_loopg [11] (y.length + 2) (fun k v11 w' => ∃ j : Int, v11 = .int .i64 j ∧ Aside0 (j + k = y.length + 1 ∧ -1 ≤ j) ∧ Aside0 (Up w2 w'))
  case atStart => exact ⟨-1, rfl, ⟨by omega, by omega⟩, ⟨up_refl _⟩⟩
  case round =>
    obtain ⟨j, rfl, HN, HB⟩ := hrel
    cases gk with
    | zero =>
      have hlt : decide (j ≤ (y.length : Int)) = false := decide_eq_false (by have := HN.out; omega)
      have hlt1 : ¬ (j ≤ (y.length : Int)) := by have := HN.out; omega
      have hrr : (r == r) = true := beq_self_eq_true _
      go_wp2_with (first | (go_at_call 26; (with_reducible refine (JCheck_none _ _).mono ?_); rintro e w8 ⟨rfl, rfl⟩) | (go_at_call 24; (with_reducible refine (Fits_nil _ _ _ _ _).mono ?_); rintro e w7 ⟨rfl, rfl⟩) | (go_at_call 27; (with_reducible refine (RCheck16_calls A3 c3 P A4 c4 y _ (((HT.out.up HU2.out).up HB.out).up HU5.out).table HG.out.right HW.out HL.out ((HI4.out.up HB.out).up HU5.out) HYL.out HWF.out r HR0.out).mono ?_); rintro e w6 ⟨rfl, hup6⟩; have HU6 := Aside0.mk (up_trans HU5.out hup6); clear hup6) | (go_at_call 26; (with_reducible refine (JCheck_calls (((HD.out.up HU2.out).up HB.out).up HU4.out) HG.out A4 c4 y ((HI4.out.up HB.out).up HU4.out) HYL.out HWF.out r HR0.out).mono ?_); rintro e w5 ⟨rfl, hup5⟩; have HU5 := Aside0.mk (up_trans HU4.out hup5); clear hup5) | (go_at_call 25; (with_reducible refine (RFits_calls A3 c3 P A4 c4 y i _ (((HT.out.up HU2.out).up HB.out).up HU3.out).table HG.out.right HW.out HL.out ((HI4.out.up HB.out).up HU3.out) HYL.out HWF.out b HB0.out).mono ?_); rintro e w4 ⟨rfl, hup4⟩; have HU4 := Aside0.mk (up_trans HU3.out hup4); clear hup4) | (go_at_call 24; (with_reducible refine (Fits_calls ((HD.out.up HU2.out).up HB.out) HG.out A4 c4 y i (HI4.out.up HB.out) HYL.out HWF.out b HB0.out).mono ?_); rintro e w3 ⟨rfl, hup3⟩; have HU3 := Aside0.mk hup3; clear hup3))
      go_ret
      exact ⟨rfl, up_trans HU1.out (up_trans HU2.out (up_trans HB.out HU6.out))⟩
    | succ k =>
      have hlt : decide (j ≤ (y.length : Int)) = true := decide_eq_true (by have := HN.out; omega)
      have hlt1 : j ≤ (y.length : Int) := by have := HN.out; omega
      have hwj : wrap64 (j + 1) = j + 1 := by have := HN.out; have := HY1.out; unfold wrap64; omega
      obtain ⟨b1, hb1⟩ : ∃ b1, fitsF (jnF P) (clF P) y j = b1 := ⟨_, rfl⟩
      have HB1 := Aside0.mk hb1
      have hbb : (b1 == b1) = true := beq_self_eq_true _
      clear hb1
      go_wp2_with (first | (go_at_call 24; (with_reducible refine (Fits_calls ((HD.out.up HU2.out).up HB.out) HG.out A4 c4 y j (HI4.out.up HB.out) HYL.out HWF.out b1 HB1.out).mono ?_); rintro e w3 ⟨rfl, hup3⟩; have HU3 := Aside0.mk hup3; clear hup3) | (go_at_call 25; (with_reducible refine (RFits_calls A3 c3 P A4 c4 y j _ (((HT.out.up HU2.out).up HB.out).up HU3.out).table HG.out.right HW.out HL.out ((HI4.out.up HB.out).up HU3.out) HYL.out HWF.out b1 HB1.out).mono ?_); rintro e w4 ⟨rfl, hup4⟩; have HU4 := Aside0.mk (up_trans HU3.out hup4); clear hup4))
      go_roundg k
      case measure => have := HN.out; omega
      case rel => exact ⟨j + 1, by first | rfl | rw [hwj], ⟨by have := HN.out; omega, by have := HN.out; omega⟩, ⟨up_trans HB.out HU4.out⟩⟩
end Go.Proofs.YtfoldfaeelggoaaGreat.M
