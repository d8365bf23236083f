/- OrderSame, walked. (printed by mkosame.py) -/
import Derived.Test.YtnohcnneflogjaaGreatK45
set_option linter.unusedVariables false
set_option linter.unusedSimpArgs false
namespace Go.Proofs.YtnohcnneflogjaaGreat.M.St
open Go.Shelf Go.RowKit Go.Lib Go.Sort
set_option maxHeartbeats 16000000
set_option maxRecDepth 1000000
theorem OrderSame_no (A : Option Addr) (c : Nat) (T : List Rec) (A1 : Option Addr) (n1 c1 : Nat) (A2 : Option Addr) (n2 c2 : Nat) (w : World) (hT : Table w A T) (hW : ∀ x ∈ T, x.Wf) (hc : T.length ≤ c) (he : (checkE (T.take 150)).2 ≠ 0) :
 Calls Tryz.prog 7 #[.slice A T.length c, .slice A1 n1 c1, .slice A2 n2 c2] w fun e w' => e = .returned (.bool true) ∧ Up w w' := by
 have HM := Aside0.mk (Made_no A c T w hT hW hc he)
 clear hT hW hc he
 go_enter Tryz.func7, Tryz.ntmps7
 go_wp2_with (first | (go_at_call 21; (with_reducible refine HM.out.mono ?_); rintro e w1 ⟨rfl, hup1⟩) | (go_at_call 22; (with_reducible refine (told12_calls _).mono ?_); rintro e w2 ⟨rfl, hup2⟩))
 go_ret
 exact ⟨rfl, up_trans hup1 hup2⟩
theorem OrderSame_yes (A : Option Addr) (c : Nat) (T P : List Rec) (X1 : Option Addr) (x1 : List Int) (k1 : Nat) (X2 : Option Addr) (x2 : List Int) (k2 : Nat) (w : World) (hP : T.take 150 = P) (hT : Table w A T) (hW : ∀ x ∈ T, x.Wf) (hc : T.length ≤ c) (he : (checkE P).2 = 0)
 (hI1 : Ints .i32 w X1 x1) (hx1 : x1.length < 4611686018427387904) (hc1 : x1.length ≤ k1) (hwf1 : ∀ z ∈ x1, (Lit.int .i32 z).wf = true) (hI2 : Ints .i32 w X2 x2) (hx2 : x2.length < 4611686018427387904) (hc2 : x2.length ≤ k2) (hwf2 : ∀ z ∈ x2, (Lit.int .i32 z).wf = true) :
 Calls Tryz.prog 7 #[.slice A T.length c, .slice X1 x1.length k1, .slice X2 x2.length k2] w fun e w' => e = .returned (.bool true) ∧ Up w w' := by
 have HM := Aside0.mk (Made_yes A c T P w hP hT hW hc he)
 have HF : Aside0 (Fine P) := ⟨fine_of (fun x hx => hW x (by rw [← hP] at hx; exact List.mem_of_mem_take hx)) he⟩
 have HJ1 := Aside0.mk hI1
 have HX1 := Aside0.mk hx1
 have HXC1 := Aside0.mk hc1
 have HWF1 := Aside0.mk hwf1
 have HJ2 := Aside0.mk hI2
 have HX2 := Aside0.mk hx2
 have HXC2 := Aside0.mk hc2
 have HWF2 := Aside0.mk hwf2
 clear hT hW hc he hP hI1 hx1 hc1 hwf1 hI2 hx2 hc2 hwf2
 obtain ⟨s, hs⟩ : ∃ s, x1.take 100 = s := ⟨_, rfl⟩
 obtain ⟨r, hr⟩ : ∃ r, x2.take 100 = r := ⟨_, rfl⟩
 have HSE := Aside0.mk hs
 have HRE := Aside0.mk hr
 have HSL : Aside0 (s.length ≤ 65536) := ⟨by rw [← hs, List.length_take]; omega⟩
 have HRL : Aside0 (r.length ≤ 65536) := ⟨by rw [← hr, List.length_take]; omega⟩
 have HSL2 : Aside0 (s.length ≤ 100000) := ⟨by have := HSL.out; omega⟩
 have HRL2 : Aside0 (r.length ≤ 100000) := ⟨by have := HRL.out; omega⟩
 have HSR : Aside0 (InI32 s) := ⟨fun z hz => wf_i32 (HWF1.out z (by rw [← hs] at hz; exact List.mem_of_mem_take hz))⟩
 have HRR : Aside0 (InI32 r) := ⟨fun z hz => wf_i32 (HWF2.out z (by rw [← hr] at hz; exact List.mem_of_mem_take hz))⟩
 obtain ⟨b, hb⟩ : ∃ b, (sortF P (openX P s) == sortF P (openX P r)) = b := ⟨_, rfl⟩
 have HB := Aside0.mk hb
 have HB2 : Aside0 ((sortF P (openX P r) == sortF P (openX P s)) = b) := ⟨by rw [← hb]; exact Bool.beq_comm⟩
 have hbb : (b == b) = true := by cases b <;> rfl
 clear hs hr hb
 go_enter Tryz.func7, Tryz.ntmps7
 go_wp2_with (first | (go_at_call 40; (with_reducible refine (RSame12_calls (HTA.out.up (up_trans HS2.out (up_trans HS3.out (up_trans HS4.out (up_trans HS5.out HS6.out))))) c1 A2 A3 c2 c3 s r (HI2.out.up (up_trans HS3.out (up_trans HS4.out (up_trans HS5.out HS6.out)))) (HI3.out.up (up_trans HS4.out (up_trans HS5.out HS6.out))) HSR.out HRR.out HSL2.out HRL2.out b HB.out).mono ?_); rintro e w7 ⟨rfl, hup⟩; have HS7 := Aside0.mk hup; clear hup) |
  (go_at_call 39; (with_reducible refine (Same_nil _ _ _ _ _ _ _).mono ?_); rintro e w6 ⟨rfl, hup⟩; have HS6 := Aside0.mk hup; have HQ := Aside0.mk (up_trans HS1.out (up_trans HS2.out (up_trans HS3.out (up_trans HS4.out HS5.out)))); clear hup) |
  (go_at_call 39; (with_reducible refine (Same_i (HD.out.up (up_trans HS2.out (up_trans HS3.out HS4.out))) HF.out HF.out.wf A3 A2 c3 c2 r s (HI3.out.up HS4.out) (HI2.out.up (up_trans HS3.out HS4.out)) HRR.out HSR.out HRL.out HSL.out b HB2.out).mono ?_); rintro e w5 ⟨rfl, hup⟩; have HS5 := Aside0.mk hup; clear hup) |
  (go_at_call 39; (with_reducible refine (Same_i (HD.out.up (up_trans HS2.out HS3.out)) HF.out HF.out.wf A2 A3 c2 c3 s r (HI2.out.up HS3.out) HI3.out HSR.out HRR.out HSL.out HRL.out b HB.out).mono ?_); rintro e w4 ⟨rfl, hup⟩; have HS4 := Aside0.mk hup; clear hup) |
  (go_at_call 23; (with_reducible refine (few12_ints X2 k2 x2 r 100 100 rfl _ (HJ2.out.up (up_trans HS1.out HS2.out)) HX2.out HXC2.out (by decide) HRE.out).mono ?_); rintro e w3 ⟨A3, c3, rfl, hi, hup⟩; have HS3 := Aside0.mk hup; have HI3 := Aside0.mk hi; clear hup hi) |
  (go_at_call 23; (with_reducible refine (few12_ints X1 k1 x1 s 100 100 rfl _ (HJ1.out.up HS1.out) HX1.out HXC1.out (by decide) HSE.out).mono ?_); rintro e w2 ⟨A2, c2, rfl, hi, hup⟩; have HS2 := Aside0.mk hup; have HI2 := Aside0.mk hi; clear hup hi) |
  (go_at_call 21; (with_reducible refine (HM.out).mono ?_); rintro e w1 ⟨bd, D, A1, c1, rfl, hD, hTab, hup⟩; have HS1 := Aside0.mk hup; have HD := Aside0.mk hD; have HTA : Aside0 (TabAt w1 A1 P) := ⟨hTab.table, HF.out⟩; have HTF := Aside0.mk hTab; clear hup hD hTab))
 go_ret
 exact ⟨rfl, (up_trans HS1.out (up_trans HS2.out (up_trans HS3.out (up_trans HS4.out (up_trans HS5.out (up_trans HS6.out HS7.out))))))⟩
end Go.Proofs.YtnohcnneflogjaaGreat.M.St
