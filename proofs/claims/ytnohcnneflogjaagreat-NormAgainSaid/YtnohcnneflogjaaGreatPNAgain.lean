/- NormAgain, walked. (printed by mknlaws.py) -/
import Derived.Test.YtnohcnneflogjaaGreatPNorm4
set_option maxHeartbeats 16000000
set_option maxRecDepth 1000000
set_option linter.unusedVariables false
set_option linter.unusedSimpArgs false
namespace Go.Proofs.YtnohcnneflogjaaGreat.M.Nm
open Go.Shelf Go.RowKit Go.Lib Go.Sort St
theorem NormAgain_no (A : Option Addr) (c : Nat) (T : List Rec) (A1 : Option Addr) (n1 c1 : Nat) (A2 : Option Addr) (n2 c2 : Nat) (w : World) (hT : Table w A T) (hW : ∀ x ∈ T, x.Wf) (hc : T.length ≤ c) (he : (checkE (T.take 150)).2 ≠ 0) :
 Calls Tryz.prog 17 #[.slice A T.length c, .slice A1 n1 c1, .slice A2 n2 c2] w fun e w' => e = .returned (.bool true) ∧ Up w w' := by
 have HM := Az.mk (Made_no A c T w hT hW hc he)
 clear hT hW hc he
 go_enter Tryz.func17, Tryz.ntmps17
 go_wp2_with (first | (go_at_call 21; (with_reducible refine HM.out.mono ?_); rintro e w1 ⟨rfl, hup1⟩) | (go_at_call 41; (with_reducible refine (told13_calls _).mono ?_); rintro e w2 ⟨rfl, hup2⟩))
 go_ret
 exact ⟨rfl, up_trans hup1 hup2⟩
theorem NormAgain_yes (A : Option Addr) (c : Nat) (T P : List Rec) (X1 : Option Addr) (x1 : List Int) (k1 : Nat) (X2 : Option Addr) (x2 : List Int) (k2 : Nat) (w : World) (hP : T.take 150 = P) (hT : Table w A T) (hW : ∀ x ∈ T, x.Wf) (hc : T.length ≤ c) (he : (checkE P).2 = 0)
 (hI1 : Ints .i32 w X1 x1) (hx1 : x1.length < 4611686018427387904) (hc1 : x1.length ≤ k1) (hwf1 : ∀ z ∈ x1, (Lit.int .i32 z).wf = true) (hI2 : Ints .i32 w X2 x2) (hx2 : x2.length < 4611686018427387904) (hc2 : x2.length ≤ k2) (hwf2 : ∀ z ∈ x2, (Lit.int .i32 z).wf = true) :
 Calls Tryz.prog 17 #[.slice A T.length c, .slice X1 x1.length k1, .slice X2 x2.length k2] w fun e w' => e = .returned (.bool true) ∧ Up w w' := by
 have HM := Az.mk (Made_yes A c T P w hP hT hW hc he)
 have HF : Az (Fine P) := ⟨fine_of (fun x hx => hW x (by rw [← hP] at hx; exact List.mem_of_mem_take hx)) he⟩
 have HJ1 := Az.mk hI1
 have HX1 := Az.mk hx1
 have HXC1 := Az.mk hc1
 have HWF1 := Az.mk hwf1
 have HJ2 := Az.mk hI2
 have HX2 := Az.mk hx2
 have HXC2 := Az.mk hc2
 have HWF2 := Az.mk hwf2
 clear hT hW hc he hP hI1 hx1 hc1 hwf1 hI2 hx2 hc2 hwf2
 obtain ⟨s, hs⟩ : ∃ s, x1.take 150 = s := ⟨_, rfl⟩
 have HsE := Az.mk hs
 have HsL : Az (s.length ≤ 150) := ⟨by rw [← hs, List.length_take]; omega⟩
 have HsR : Az (InI32 s) := ⟨fun z hz => St.wf_i32 (HWF1.out z (by rw [← hs] at hz; exact List.mem_of_mem_take hz))⟩
 have Hs2 : Az (s.length ≤ 65536) := ⟨by have := HsL.out; omega⟩
 have HsB : Az (s.length ≤ 35184372087808) := ⟨by have := HsL.out; omega⟩
 clear hs
 obtain ⟨r, hr⟩ : ∃ r, x2.take 150 = r := ⟨_, rfl⟩
 have HrE := Az.mk hr
 have HrL : Az (r.length ≤ 150) := ⟨by rw [← hr, List.length_take]; omega⟩
 have HrR : Az (InI32 r) := ⟨fun z hz => St.wf_i32 (HWF2.out z (by rw [← hr] at hz; exact List.mem_of_mem_take hz))⟩
 have Hr2 : Az (r.length ≤ 65536) := ⟨by have := HrL.out; omega⟩
 have HrB : Az (r.length ≤ 35184372087808) := ⟨by have := HrL.out; omega⟩
 clear hr
 obtain ⟨v, hv⟩ : ∃ v, nfcF P s = v := ⟨_, rfl⟩
 have HvE := Az.mk hv
 have HvL : Az (v.length ≤ 6400) := ⟨by rw [← hv]; have := nfc_len HF.out s; have := HsL.out; omega⟩
 have HvR : Az (InI32 v) := ⟨by rw [← hv]; exact nfc_range HF.out HsR.out⟩
 have Hv2 : Az (v.length ≤ 65536) := ⟨by have := HvL.out; omega⟩
 have HvB : Az (v.length ≤ 35184372087808) := ⟨by have := HvL.out; omega⟩
 have HvS : Az ((v == v) = true) := ⟨by simp⟩
 clear hv
 obtain ⟨p, hp⟩ : ∃ p, nfdF P s = p := ⟨_, rfl⟩
 have HpE := Az.mk hp
 have HpL : Az (p.length ≤ 6400) := ⟨by rw [← hp]; have := nfd_len HF.out s; have := HsL.out; omega⟩
 have HpR : Az (InI32 p) := ⟨by rw [← hp]; exact nfd_range HF.out HsR.out⟩
 have Hp2 : Az (p.length ≤ 65536) := ⟨by have := HpL.out; omega⟩
 have HpB : Az (p.length ≤ 35184372087808) := ⟨by have := HpL.out; omega⟩
 have HpS : Az ((p == p) = true) := ⟨by simp⟩
 clear hp
 obtain ⟨u, hu⟩ : ∃ u, nfcF P r = u := ⟨_, rfl⟩
 have HuE := Az.mk hu
 have HuL : Az (u.length ≤ 6400) := ⟨by rw [← hu]; have := nfc_len HF.out r; have := HrL.out; omega⟩
 have HuR : Az (InI32 u) := ⟨by rw [← hu]; exact nfc_range HF.out HrR.out⟩
 have Hu2 : Az (u.length ≤ 65536) := ⟨by have := HuL.out; omega⟩
 have HuB : Az (u.length ≤ 35184372087808) := ⟨by have := HuL.out; omega⟩
 have HuS : Az ((u == u) = true) := ⟨by simp⟩
 clear hu
 have E1 : Az (nfcF P v = v) := ⟨by rw [← HvE.out]; exact nfc_nfc HF.out s⟩
 have E2 : Az (sortF P (openX P v) = p) := ⟨by rw [← HvE.out, ← HpE.out]; exact nfd_nfc HF.out s⟩
 have E3 : Az (nfcF P p = v) := ⟨by rw [← HvE.out, ← HpE.out]; exact nfc_nfd HF.out s⟩
 have E4 : Az (sortF P (openX P s) = p) := ⟨HpE.out⟩
 obtain ⟨b, hb⟩ : ∃ b, (sortF P (openX P s) == sortF P (openX P r)) = b := ⟨_, rfl⟩
 have EB := Az.mk hb
 have EB2 : Az ((v == u) = b) := ⟨by rw [← hb, ← HvE.out, ← HuE.out]; exact (nfc_alike HF.out s r).symm⟩
 have E5 : Az ((v == nfcF P v) = true) := ⟨by rw [E1.out]; simp⟩
 have E6 : Az ((sortF P (openX P s) == sortF P (openX P v)) = true) := ⟨by rw [E2.out, E4.out]; simp⟩
 have hbb : (b == b) = true := by cases b <;> rfl
 clear hb
 go_enter Tryz.func17, Tryz.ntmps17
 go_wp2_with (first | (go_at_call 26; (with_reducible refine (SameB_calls A4 A9 c4 c9 v u _ (HI4.out.up (up_trans HS5.out (up_trans HS6.out (up_trans HS7.out (up_trans HS8.out (up_trans HS9.out (up_trans HS10.out (up_trans HS11.out (up_trans HS12.out (up_trans HS13.out (up_trans HS14.out HS15.out))))))))))) (HI9.out.up (up_trans HS10.out (up_trans HS11.out (up_trans HS12.out (up_trans HS13.out (up_trans HS14.out HS15.out)))))) HvB.out HuB.out b EB2.out).mono ?_); rintro e w16 ⟨rfl, hup⟩; have HS16 := Az.mk hup; clear hup) |
  (go_at_call 26; (with_reducible refine (SameB_calls A4 A8 c4 c8 v v _ (HI4.out.up (up_trans HS5.out (up_trans HS6.out (up_trans HS7.out (up_trans HS8.out (up_trans HS9.out (up_trans HS10.out (up_trans HS11.out (up_trans HS12.out (up_trans HS13.out HS14.out)))))))))) (HI8.out.up (up_trans HS9.out (up_trans HS10.out (up_trans HS11.out (up_trans HS12.out (up_trans HS13.out HS14.out)))))) HvB.out HvB.out true HvS.out).mono ?_); rintro e w15 ⟨rfl, hup⟩; have HS15 := Az.mk hup; clear hup) |
  (go_at_call 26; (with_reducible refine (SameB_calls A6 A7 c6 c7 p p _ (HI6.out.up (up_trans HS7.out (up_trans HS8.out (up_trans HS9.out (up_trans HS10.out (up_trans HS11.out (up_trans HS12.out HS13.out))))))) (HI7.out.up (up_trans HS8.out (up_trans HS9.out (up_trans HS10.out (up_trans HS11.out (up_trans HS12.out HS13.out)))))) HpB.out HpB.out true HpS.out).mono ?_); rintro e w14 ⟨rfl, hup⟩; have HS14 := Az.mk hup; clear hup) |
  (go_at_call 26; (with_reducible refine (SameB_calls A4 A5 c4 c5 v v _ (HI4.out.up (up_trans HS5.out (up_trans HS6.out (up_trans HS7.out (up_trans HS8.out (up_trans HS9.out (up_trans HS10.out (up_trans HS11.out HS12.out)))))))) (HI5.out.up (up_trans HS6.out (up_trans HS7.out (up_trans HS8.out (up_trans HS9.out (up_trans HS10.out (up_trans HS11.out HS12.out))))))) HvB.out HvB.out true HvS.out).mono ?_); rintro e w13 ⟨rfl, hup⟩; have HS13 := Az.mk hup; clear hup) |
  (go_at_call 39; (with_reducible refine (Same_i (HD.out.up (up_trans HS2.out (up_trans HS3.out (up_trans HS4.out (up_trans HS5.out (up_trans HS6.out (up_trans HS7.out (up_trans HS8.out (up_trans HS9.out (up_trans HS10.out HS11.out)))))))))) HF.out HF.out.wf A2 A4 c2 c4 s v (HI2.out.up (up_trans HS3.out (up_trans HS4.out (up_trans HS5.out (up_trans HS6.out (up_trans HS7.out (up_trans HS8.out (up_trans HS9.out (up_trans HS10.out HS11.out))))))))) (HI4.out.up (up_trans HS5.out (up_trans HS6.out (up_trans HS7.out (up_trans HS8.out (up_trans HS9.out (up_trans HS10.out HS11.out))))))) HsR.out HvR.out Hs2.out Hv2.out true E6.out).mono ?_); rintro e w12 ⟨rfl, hup⟩; have HS12 := Az.mk hup; clear hup) |
  (go_at_call 58; (with_reducible refine (Is_calls (HD.out.up (up_trans HS2.out (up_trans HS3.out (up_trans HS4.out (up_trans HS5.out (up_trans HS6.out (up_trans HS7.out (up_trans HS8.out (up_trans HS9.out HS10.out))))))))) HF.out A4 c4 v _ rfl (HI4.out.up (up_trans HS5.out (up_trans HS6.out (up_trans HS7.out (up_trans HS8.out (up_trans HS9.out HS10.out)))))) HvR.out Hv2.out true E5.out).mono ?_); rintro e w11 ⟨rfl, hup⟩; have HS11 := Az.mk hup; clear hup) |
  (go_at_call 39; (with_reducible refine (Same_i (HD.out.up (up_trans HS2.out (up_trans HS3.out (up_trans HS4.out (up_trans HS5.out (up_trans HS6.out (up_trans HS7.out (up_trans HS8.out HS9.out)))))))) HF.out HF.out.wf A2 A3 c2 c3 s r (HI2.out.up (up_trans HS3.out (up_trans HS4.out (up_trans HS5.out (up_trans HS6.out (up_trans HS7.out (up_trans HS8.out HS9.out))))))) (HI3.out.up (up_trans HS4.out (up_trans HS5.out (up_trans HS6.out (up_trans HS7.out (up_trans HS8.out HS9.out)))))) HsR.out HrR.out Hs2.out Hr2.out b EB.out).mono ?_); rintro e w10 ⟨rfl, hup⟩; have HS10 := Az.mk hup; clear hup) |
  (go_at_call 44; (with_reducible refine (NFC_calls (HD.out.up (up_trans HS2.out (up_trans HS3.out (up_trans HS4.out (up_trans HS5.out (up_trans HS6.out (up_trans HS7.out HS8.out))))))) HF.out A3 c3 r _ rfl (HI3.out.up (up_trans HS4.out (up_trans HS5.out (up_trans HS6.out (up_trans HS7.out HS8.out))))) HrR.out Hr2.out u HuE.out).mono ?_); rintro e w9 ⟨A9, c9, rfl, _, hi, hup⟩; have HS9 := Az.mk hup; have HI9 := Az.mk hi; clear hup hi) |
  (go_at_call 44; (with_reducible refine (NFC_calls (HD.out.up (up_trans HS2.out (up_trans HS3.out (up_trans HS4.out (up_trans HS5.out (up_trans HS6.out HS7.out)))))) HF.out A6 c6 p _ rfl (HI6.out.up HS7.out) HpR.out Hp2.out v E3.out).mono ?_); rintro e w8 ⟨A8, c8, rfl, _, hi, hup⟩; have HS8 := Az.mk hup; have HI8 := Az.mk hi; clear hup hi) |
  (go_at_call 24; (with_reducible refine (NFD_i (HD.out.up (up_trans HS2.out (up_trans HS3.out (up_trans HS4.out (up_trans HS5.out HS6.out))))) HF.out HF.out.wf A4 c4 v _ rfl (HI4.out.up (up_trans HS5.out HS6.out)) HvR.out Hv2.out p E2.out).mono ?_); rintro e w7 ⟨A7, c7, rfl, _, hi, hup⟩; have HS7 := Az.mk hup; have HI7 := Az.mk hi; clear hup hi) |
  (go_at_call 24; (with_reducible refine (NFD_i (HD.out.up (up_trans HS2.out (up_trans HS3.out (up_trans HS4.out HS5.out)))) HF.out HF.out.wf A2 c2 s _ rfl (HI2.out.up (up_trans HS3.out (up_trans HS4.out HS5.out))) HsR.out Hs2.out p E4.out).mono ?_); rintro e w6 ⟨A6, c6, rfl, _, hi, hup⟩; have HS6 := Az.mk hup; have HI6 := Az.mk hi; clear hup hi) |
  (go_at_call 44; (with_reducible refine (NFC_calls (HD.out.up (up_trans HS2.out (up_trans HS3.out HS4.out))) HF.out A4 c4 v _ rfl HI4.out HvR.out Hv2.out v E1.out).mono ?_); rintro e w5 ⟨A5, c5, rfl, _, hi, hup⟩; have HS5 := Az.mk hup; have HI5 := Az.mk hi; clear hup hi) |
  (go_at_call 44; (with_reducible refine (NFC_calls (HD.out.up (up_trans HS2.out HS3.out)) HF.out A2 c2 s _ rfl (HI2.out.up HS3.out) HsR.out Hs2.out v HvE.out).mono ?_); rintro e w4 ⟨A4, c4, rfl, _, hi, hup⟩; have HS4 := Az.mk hup; have HI4 := Az.mk hi; clear hup hi) |
  (go_at_call 42; (with_reducible refine (few13_ints X2 k2 x2 r 150 150 rfl _ (HJ2.out.up (up_trans HS1.out HS2.out)) HX2.out HXC2.out (by decide) HrE.out).mono ?_); rintro e w3 ⟨A3, c3, rfl, hi, hup⟩; have HS3 := Az.mk hup; have HI3 := Az.mk hi; clear hup hi) |
  (go_at_call 42; (with_reducible refine (few13_ints X1 k1 x1 s 150 150 rfl _ (HJ1.out.up HS1.out) HX1.out HXC1.out (by decide) HsE.out).mono ?_); rintro e w2 ⟨A2, c2, rfl, hi, hup⟩; have HS2 := Az.mk hup; have HI2 := Az.mk hi; clear hup hi) |
  (go_at_call 21; (with_reducible refine (HM.out).mono ?_); rintro e w1 ⟨bd, D, A1, c1, rfl, hD, _, hup⟩; have HS1 := Az.mk hup; have HD := Az.mk hD; clear hup hD))
 go_ret
 exact ⟨rfl, (up_trans HS1.out (up_trans HS2.out (up_trans HS3.out (up_trans HS4.out (up_trans HS5.out (up_trans HS6.out (up_trans HS7.out (up_trans HS8.out (up_trans HS9.out (up_trans HS10.out (up_trans HS11.out (up_trans HS12.out (up_trans HS13.out (up_trans HS14.out (up_trans HS15.out HS16.out)))))))))))))))⟩
end Go.Proofs.YtnohcnneflogjaaGreat.M.Nm
