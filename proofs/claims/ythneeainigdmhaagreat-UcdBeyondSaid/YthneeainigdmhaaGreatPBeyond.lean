/- UcdBeyond, walked. (printed by mkbeyond.py) -/
import Derived.Test.YthneeainigdmhaaGreatPMeth5
import Derived.Test.YthneeainigdmhaaGreatPSameB
import Derived.Test.YthneeainigdmhaaGreatK37
set_option linter.unusedVariables false
set_option linter.unusedSimpArgs false
namespace Go.Proofs.YthneeainigdmhaaGreat.M
open Go.RowKit
set_option maxHeartbeats 16000000
set_option maxRecDepth 100000

theorem mapF_out {T : List Rec} {c : Int} (h : c < 0 ∨ 1114111 < c) : mapF T c = [] := by
  unfold mapF
  rw [findR_out h]
theorem UcdBeyond_no (A : Option Addr) (c : Nat) (T : List Rec) (z b : Int) (w : World) (hT : Table w A T) (hW : ∀ x ∈ T, x.Wf) (hc : T.length ≤ c) (he : (checkE (T.take 150)).2 ≠ 0) :
    Calls Tryz.prog 10 #[.slice A T.length c, .int .i32 z, .int .i32 b] w fun e w' => e = .returned (.bool true) ∧ Up w w' := by
  have HM := Aside0.mk (Made_no A c T w hT hW hc he)
  clear hT hW hc he
  go_enter Tryz.func10, Tryz.ntmps10
  go_wp2_with (first | (go_at_call 20; (with_reducible refine HM.out.mono ?_); rintro e w1 ⟨rfl, hup1⟩) | (go_at_call 26; (with_reducible refine (told_calls _).mono ?_); rintro e w2 ⟨rfl, hup2⟩))
  go_ret
  exact ⟨rfl, up_trans hup1 hup2⟩
theorem UcdBeyond_yes (A : Option Addr) (c : Nat) (T P : List Rec) (c0 b : Int) (w : World) (hP : T.take 150 = P) (hT : Table w A T) (hW : ∀ x ∈ T, x.Wf) (hc : T.length ≤ c) (he : (checkE P).2 = 0)
    (hz1 : -2147483648 ≤ c0) (hz2 : c0 ≤ 2147483647) (hb1 : -2147483648 ≤ b) (hb2 : b ≤ 2147483647) :
    Calls Tryz.prog 10 #[.slice A T.length c, .int .i32 c0, .int .i32 b] w fun e w' => e = .returned (.bool true) ∧ Up w w' := by
  have HM := Aside0.mk (Made_yes A c T P w hP hT hW hc he)
  have hWP : ∀ x ∈ P, x.Wf := fun x hx => hW x (by rw [← hP] at hx; exact List.mem_of_mem_take hx)
  have HF := Aside0.mk (fine_of hWP he)
  have HG := Aside0.mk (fine_of hWP he).toGood
  have HWP := Aside0.mk hWP
  have HPT : Aside0 (P.length ≤ 4096) := ⟨by rw [← hP, List.length_take]; omega⟩
  obtain ⟨z, hz⟩ : ∃ z : Int, (if 0 ≤ c0 ∧ c0 ≤ 1114111 then -1 - c0 else c0) = z := ⟨_, rfl⟩
  have hout : z < 0 ∨ 1114111 < z := by
    rw [← hz]
    split <;> omega
  have HZ : Aside0 (-2147483648 ≤ z ∧ z ≤ 2147483647 ∧ (z < 0 ∨ 1114111 < z)) := ⟨by rw [← hz]; split <;> omega, by rw [← hz]; split <;> omega, hout⟩
  have HBB : Aside0 (-2147483648 ≤ b ∧ b ≤ 2147483647) := ⟨hb1, hb2⟩
  have HZZ := Aside0.mk hz
  obtain ⟨e1, e2, e3⟩ := beyond_comp HG.out (b := b) hout
  obtain ⟨r1, hc1⟩ : ∃ r1, compF P z b = (r1, false) := ⟨_, Prod.ext rfl e1⟩
  obtain ⟨r2, hc2⟩ : ∃ r2, compF P b z = (r2, false) := ⟨_, Prod.ext rfl e2⟩
  have HC1 := Aside0.mk hc1
  have HC2 := Aside0.mk hc2
  have HST : Aside0 (statF P z = 0) := ⟨statF_out hout⟩
  have HMP : Aside0 (mapF P z = []) := ⟨mapF_out hout⟩
  have HCL : Aside0 (numF P 2 (·.n) z = 0) := ⟨numF_out hout⟩
  have HOP : Aside0 (openF P z = []) := ⟨(beyond_full hout).1⟩
  have HFL : Aside0 (fullL P z = [z]) := ⟨by unfold fullL; rw [(beyond_full hout).2]⟩
  have HSE : Aside0 (secondF P z = false) := ⟨e3⟩
  have HBI : Aside0 (numF P 4 (·.n) z = 0) := ⟨numF_out hout⟩
  have HJO : Aside0 (numF P 5 (·.n) z = 0) := ⟨numF_out hout⟩
  have HMA : Aside0 ((numF P 6 (fun _ => 1) z == 1) = false) := ⟨by rw [numF_out hout]; rfl⟩
  have HSC : Aside0 (scriptF P z = ⟨#[]⟩) := ⟨(beyond_looks hout).2⟩
  have HLK : Aside0 (looksF P z = [z]) := ⟨(beyond_looks hout).1⟩
  have HFN : Aside0 (findR P 9 z = none) := ⟨findR_out hout⟩
  have HSM : Aside0 (([z] == [z]) = true) := ⟨by simp⟩
  clear hT hW hc he hWP hP hz hout e1 e2 e3 hc1 hc2 hb1 hb2
  go_enter Tryz.func10, Tryz.ntmps10
  go_upto_region 4 with (first | (go_at_call 20; (with_reducible refine HM.out.mono ?_); rintro e w1 ⟨bd, D, A3, c3, rfl, hD, hTab, hup1⟩; have HD := Aside0.mk hD; have HT := Aside0.mk hTab; have HU1 := Aside0.mk hup1; have HB1 := Aside0.mk (up_refl w1); obtain ⟨⟨a0, a1, a2, a3, a4, a5, a6⟩, ⟨a7, a8, a9, a10, a11⟩, a12, a13, a14, a15, a16⟩ := HD.out.all; clear hD hTab hup1))
  obtain ⟨bb, hbb⟩ : ∃ bb : Bool, decide (0 ≤ c0 ∧ c0 ≤ 1114111) = bb := ⟨_, rfl⟩
  have HBB2 := Aside0.mk hbb
  clear hbb
  go_cut [33] (fun v33 w' => v33 = .bool bb ∧ w1 = w')
  case first =>
    by_cases h0 : 0 ≤ c0
    · by_cases h1 : c0 ≤ 1114111
      · have hb0 : true = bb := by rw [← HBB2.out]; symm; exact decide_eq_true ⟨h0, h1⟩
        subst hb0
        go_wp2
        go_meet
        exact ⟨rfl, rfl⟩
      · have hb0 : false = bb := by rw [← HBB2.out]; symm; exact decide_eq_false (fun h => h1 h.2)
        subst hb0
        go_wp2
        go_meet
        exact ⟨rfl, rfl⟩
    · have hb0 : false = bb := by rw [← HBB2.out]; symm; exact decide_eq_false (fun h => h0 h.1)
      subst hb0
      go_wp2
      go_meet
      exact ⟨rfl, rfl⟩
  case rest =>
  obtain ⟨rfl, rfl⟩ := hcut
  go_upto_if 33 with fail
  go_cut [1] (fun v1 w' => v1 = .int .i32 z ∧ w1 = w')
  case first =>
    cases bb with
    | true =>
      have h01 := of_decide_eq_true HBB2.out
      have hzz : -1 - c0 = z := by have := HZZ.out; rwa [if_pos h01] at this
      have h0 : 0 ≤ c0 := h01.1
      have h1 : c0 ≤ 1114111 := h01.2
      clear h01
      subst hzz
      go_wp2
      go_meet
      exact ⟨rfl, rfl⟩
    | false =>
      have hzz : c0 = z := by have := HZZ.out; rwa [if_neg (of_decide_eq_false HBB2.out)] at this
      subst hzz
      go_wp2
      go_meet
      exact ⟨rfl, rfl⟩
  case rest =>
    obtain ⟨rfl, rfl⟩ := hcut
    go_wp2_with (first | (go_at_call 59; (with_reducible refine (Bits_quiet 0 _).mono ?_); rintro e w18 ⟨rfl, rfl⟩) | (go_at_call 60; (with_reducible refine ((HD.out.up HB16.out).Weight HG.out z HZ.out.1 HZ.out.2.1).mono ?_); rintro e w17 ⟨r17, rfl, hup17, hn17, _⟩; have HB17 := Aside0.mk (up_trans HB16.out hup17); have hr17 : r17 = 0 := hn17 HFN.out; subst hr17; clear hup17 hn17) | (go_at_call 30; (with_reducible refine (SameN_calls A15 (some ⟨w3.heap.size, 0, none⟩) 1 1 c15 1 [z] [z] _ HI15.out (HONE.out.up HN15.out) rfl rfl (by decide) (by decide) true HSM.out).mono ?_); rintro e w16 ⟨rfl, hup16⟩; have HB16 := Aside0.mk (up_trans HB15.out hup16); obtain ⟨⟨a0, a1, a2, a3, a4, a5, a6⟩, ⟨a7, a8, a9, a10, a11⟩, a12, a13, a14, a15, a16⟩ := (HD.out.up HB16.out).all; clear hup16) | (go_at_call 49; (with_reducible refine ((HD.out.up HB14.out).Looks HG.out z [z] HLK.out HZ.out.1 HZ.out.2.1).mono ?_); rintro e w15 ⟨v15, rfl, hown15, hup15⟩; obtain ⟨A15, c15, rfl, hi15, _⟩ := own_ints hown15; have HN15 := Aside0.mk (up_trans HN14.out hup15); have HB15 := Aside0.mk (up_trans HB14.out hup15); have HS15 := Aside0.mk hup15; have HI15 := Aside0.mk hi15; have HO15 := Aside0.mk hown15; obtain ⟨⟨a0, a1, a2, a3, a4, a5, a6⟩, ⟨a7, a8, a9, a10, a11⟩, a12, a13, a14, a15, a16⟩ := (HD.out.up HB15.out).all; clear hown15 hup15 hi15) | (go_at_call 39; (with_reducible refine ((HD.out.up HB13.out).Script HG.out z ⟨#[]⟩ HSC.out HZ.out.1 HZ.out.2.1).mono ?_); rintro e w14 ⟨rfl, hup14⟩; have HN14 := Aside0.mk (up_trans HN13.out hup14); have HB14 := Aside0.mk (up_trans HB13.out hup14); obtain ⟨⟨a0, a1, a2, a3, a4, a5, a6⟩, ⟨a7, a8, a9, a10, a11⟩, a12, a13, a14, a15, a16⟩ := (HD.out.up HB14.out).all; clear hup14) | (go_at_call 37; (with_reducible refine ((HD.out.up HB12.out).Mark z false HMA.out HZ.out.1 HZ.out.2.1).mono ?_); rintro e w13 ⟨rfl, hup13⟩; have HN13 := Aside0.mk (up_trans HN12.out hup13); have HB13 := Aside0.mk (up_trans HB12.out hup13); obtain ⟨⟨a0, a1, a2, a3, a4, a5, a6⟩, ⟨a7, a8, a9, a10, a11⟩, a12, a13, a14, a15, a16⟩ := (HD.out.up HB13.out).all; clear hup13) | (go_at_call 36; (with_reducible refine ((HD.out.up HB11.out).Join HG.out z 0 HJO.out HZ.out.1 HZ.out.2.1).mono ?_); rintro e w12 ⟨rfl, hup12⟩; have HN12 := Aside0.mk (up_trans HN11.out hup12); have HB12 := Aside0.mk (up_trans HB11.out hup12); obtain ⟨⟨a0, a1, a2, a3, a4, a5, a6⟩, ⟨a7, a8, a9, a10, a11⟩, a12, a13, a14, a15, a16⟩ := (HD.out.up HB12.out).all; clear hup12) | (go_at_call 34; (with_reducible refine ((HD.out.up HB10.out).Bidi HG.out z 0 HBI.out HZ.out.1 HZ.out.2.1).mono ?_); rintro e w11 ⟨rfl, hup11⟩; have HN11 := Aside0.mk (up_trans HN10.out hup11); have HB11 := Aside0.mk (up_trans HB10.out hup11); obtain ⟨⟨a0, a1, a2, a3, a4, a5, a6⟩, ⟨a7, a8, a9, a10, a11⟩, a12, a13, a14, a15, a16⟩ := (HD.out.up HB11.out).all; clear hup11) | (go_at_call 43; (with_reducible refine ((HD.out.up HB9.out).Second z false HSE.out HZ.out.1 HZ.out.2.1).mono ?_); rintro e w10 ⟨rfl, hup10⟩; have HN10 := Aside0.mk (up_trans HN9.out hup10); have HB10 := Aside0.mk (up_trans HB9.out hup10); obtain ⟨⟨a0, a1, a2, a3, a4, a5, a6⟩, ⟨a7, a8, a9, a10, a11⟩, a12, a13, a14, a15, a16⟩ := (HD.out.up HB10.out).all; clear hup10) | (go_at_call 30; (with_reducible refine (SameN_calls A8 (some ⟨w3.heap.size, 0, none⟩) 1 1 c8 1 [z] [z] _ HI8.out (HONE.out.up HN8.out) rfl rfl (by decide) (by decide) true HSM.out).mono ?_); rintro e w9 ⟨rfl, hup9⟩; have HN9 := Aside0.mk (up_trans HN8.out hup9); have HB9 := Aside0.mk (up_trans HB8.out hup9); obtain ⟨⟨a0, a1, a2, a3, a4, a5, a6⟩, ⟨a7, a8, a9, a10, a11⟩, a12, a13, a14, a15, a16⟩ := (HD.out.up HB9.out).all; clear hup9) | (go_at_call 44; (with_reducible refine ((HD.out.up HB7.out).Full HF.out z [z] HFL.out HZ.out.1 HZ.out.2.1).mono ?_); rintro e w8 ⟨v8, rfl, hown8, hup8⟩; obtain ⟨A8, c8, rfl, hi8, _⟩ := own_ints hown8; have HN8 := Aside0.mk (up_trans HN7.out hup8); have HB8 := Aside0.mk (up_trans HB7.out hup8); have HS8 := Aside0.mk hup8; have HI8 := Aside0.mk hi8; have HO8 := Aside0.mk hown8; obtain ⟨⟨a0, a1, a2, a3, a4, a5, a6⟩, ⟨a7, a8, a9, a10, a11⟩, a12, a13, a14, a15, a16⟩ := (HD.out.up HB8.out).all; clear hown8 hup8 hi8) | (go_at_call 42; (with_reducible refine ((HD.out.up HB6.out).Open HG.out z [] HOP.out HZ.out.1 HZ.out.2.1).mono ?_); rintro e w7 ⟨v7, rfl, hown7, hup7⟩; obtain ⟨A7, c7, rfl, hi7, _⟩ := own_ints hown7; have HN7 := Aside0.mk (up_trans HN6.out hup7); have HB7 := Aside0.mk (up_trans HB6.out hup7); have HS7 := Aside0.mk hup7; have HI7 := Aside0.mk hi7; have HO7 := Aside0.mk hown7; obtain ⟨⟨a0, a1, a2, a3, a4, a5, a6⟩, ⟨a7, a8, a9, a10, a11⟩, a12, a13, a14, a15, a16⟩ := (HD.out.up HB7.out).all; clear hown7 hup7 hi7) | (go_at_call 32; (with_reducible refine ((HD.out.up HB5.out).Class HG.out z 0 HCL.out HZ.out.1 HZ.out.2.1).mono ?_); rintro e w6 ⟨rfl, hup6⟩; have HN6 := Aside0.mk (up_trans HN5.out hup6); have HB6 := Aside0.mk (up_trans HB5.out hup6); obtain ⟨⟨a0, a1, a2, a3, a4, a5, a6⟩, ⟨a7, a8, a9, a10, a11⟩, a12, a13, a14, a15, a16⟩ := (HD.out.up HB6.out).all; clear hup6) | (go_at_call 27; (with_reducible refine ((HD.out.up HB4.out).Mapping HG.out z [] HMP.out HZ.out.1 HZ.out.2.1).mono ?_); rintro e w5 ⟨v5, rfl, hown5, hup5⟩; obtain ⟨A5, c5, rfl, hi5, _⟩ := own_ints hown5; have HN5 := Aside0.mk (up_trans HN4.out hup5); have HB5 := Aside0.mk (up_trans HB4.out hup5); have HS5 := Aside0.mk hup5; have HI5 := Aside0.mk hi5; have HO5 := Aside0.mk hown5; obtain ⟨⟨a0, a1, a2, a3, a4, a5, a6⟩, ⟨a7, a8, a9, a10, a11⟩, a12, a13, a14, a15, a16⟩ := (HD.out.up HB5.out).all; clear hown5 hup5 hi5) | (go_at_call 28; (with_reducible refine ((HD.out.up HB3a.out).Status z 0 HST.out HZ.out.1 HZ.out.2.1).mono ?_); rintro e w4 ⟨rfl, hup4⟩; have HB4 := Aside0.mk (up_trans HB3a.out hup4); have HN4 := Aside0.mk hup4; obtain ⟨⟨a0, a1, a2, a3, a4, a5, a6⟩, ⟨a7, a8, a9, a10, a11⟩, a12, a13, a14, a15, a16⟩ := (HD.out.up HB4.out).all; clear hup4) | (go_at_call 41; (with_reducible refine ((HD.out.up HB2.out).Compose b z r2 false HC2.out HBB.out.1 HBB.out.2 HZ.out.1 HZ.out.2.1).mono ?_); rintro e w3 ⟨rfl, hup3⟩; have HB3 := Aside0.mk (up_trans HB2.out hup3); have HB3a : Aside0 (Up w1 (w3.alloc (.cells #[.int .i32 z] 21))) := ⟨up_alloc HB3.out _⟩; have HONE : Aside0 (Ints .i32 (w3.alloc (.cells #[.int .i32 z] 21)) (some ⟨w3.heap.size, 0, none⟩) [z]) := ⟨cells_one w3 (.int .i32 z) 21⟩; obtain ⟨⟨a0, a1, a2, a3, a4, a5, a6⟩, ⟨a7, a8, a9, a10, a11⟩, a12, a13, a14, a15, a16⟩ := (HD.out.up HB3a.out).all; clear hup3) | (go_at_call 41; (with_reducible refine ((HD.out.up HB1.out).Compose z b r1 false HC1.out HZ.out.1 HZ.out.2.1 HBB.out.1 HBB.out.2).mono ?_); rintro e w2 ⟨rfl, hup2⟩; have HB2 := Aside0.mk (up_trans HB1.out hup2); obtain ⟨⟨a0, a1, a2, a3, a4, a5, a6⟩, ⟨a7, a8, a9, a10, a11⟩, a12, a13, a14, a15, a16⟩ := (HD.out.up HB2.out).all; clear hup2))
    go_ret
    exact ⟨rfl, up_trans HU1.out HB17.out⟩
end Go.Proofs.YthneeainigdmhaaGreat.M
