/- UcdPairs, walked. (printed by mkpairsl.py) -/
import Derived.Test.YthneeainigdmhaaGreatPMeth5
import Derived.Test.YthneeainigdmhaaGreatPPComp
import Derived.Test.YthneeainigdmhaaGreatPSameB
import Derived.Test.YthneeainigdmhaaGreatK37
import Derived.Test.YthneeainigdmhaaGreatPJoin1
import Derived.Test.YthneeainigdmhaaGreatK18
set_option linter.unusedVariables false
set_option linter.unusedSimpArgs false
namespace Go.Proofs.YthneeainigdmhaaGreat.M
open Go.RowKit
set_option maxHeartbeats 16000000
set_option maxRecDepth 100000

theorem comp_range {T : List Rec} (hG : Good T) {a b p : Int} (h : compF T a b = (p, true)) : -2147483648 ≤ p ∧ p ≤ 2147483647 := by
  unfold compF at h
  split at h
  · rename_i hc
    injection h with h _
    simp only [Bool.and_eq_true] at hc
    obtain ⟨ha, hb⟩ := hc
    have h1 : 4352 ≤ a ∧ a ≤ 4370 := by simpa [jl] using ha
    have h2 : 4449 ≤ b ∧ b ≤ 4469 := by simpa [jv] using hb
    omega
  · split at h
    · rename_i hc
      injection h with h _
      simp only [Bool.and_eq_true, decide_eq_true_eq] at hc
      have h1 := syl_iff hc.1.1
      have h2 : 4520 ≤ b ∧ b ≤ 4546 := by simpa [jt] using hc.2
      omega
    · split at h
      · rename_i x hx
        injection h with h _
        have hm := List.mem_of_find?_eq_some hx
        have h7 := (pairAt_iff (List.find?_some hx)).1
        have hR := hG.right x hm
        have := hR.low
        have hlo := hR.oneOf (by omega)
        have hsp := hR.span (by omega)
        omega
      · injection h with _ h
        cases h
theorem UcdPairs_no (A : Option Addr) (c : Nat) (T : List Rec) (A1 : Option Addr) (n1 c1 : Nat) (w : World) (hT : Table w A T) (hW : ∀ x ∈ T, x.Wf) (hc : T.length ≤ c) (he : (checkE (T.take 150)).2 ≠ 0) :
    Calls Tryz.prog 5 #[.slice A T.length c, .slice A1 n1 c1] w fun e w' => e = .returned (.bool true) ∧ Up w w' := by
  have HM := Aside0.mk (Made_no A c T w hT hW hc he)
  clear hT hW hc he
  go_enter Tryz.func5, Tryz.ntmps5
  go_wp2_with (first | (go_at_call 20; (with_reducible refine HM.out.mono ?_); rintro e w1 ⟨rfl, hup1⟩) | (go_at_call 26; (with_reducible refine (told_calls _).mono ?_); rintro e w2 ⟨rfl, hup2⟩))
  go_ret
  exact ⟨rfl, up_trans hup1 hup2⟩
theorem UcdPairs_yes (A : Option Addr) (c : Nat) (T P : List Rec) (Ax : Option Addr) (x : List Int) (cx : Nat) (w : World) (hP : T.take 150 = P) (hT : Table w A T) (hW : ∀ x ∈ T, x.Wf) (hc : T.length ≤ c) (he : (checkE P).2 = 0)
    (hI1 : Ints .i32 w Ax x) (hx1 : x.length < 4611686018427387904) (hc1 : x.length ≤ cx) (hwf1 : ∀ z ∈ x, (Lit.int .i32 z).wf = true) :
    Calls Tryz.prog 5 #[.slice A T.length c, .slice Ax x.length cx] w fun e w' => e = .returned (.bool true) ∧ Up w w' := by
  have HM := Aside0.mk (Made_yes A c T P w hP hT hW hc he)
  have hWP : ∀ x ∈ P, x.Wf := fun x hx => hW x (by rw [← hP] at hx; exact List.mem_of_mem_take hx)
  have HF := Aside0.mk (fine_of hWP he)
  have HG := Aside0.mk (fine_of hWP he).toGood
  have HWP := Aside0.mk hWP
  have HPT : Aside0 (P.length ≤ 4096) := ⟨by rw [← hP, List.length_take]; omega⟩
  have HI1 := Aside0.mk hI1
  have HX1 := Aside0.mk hx1
  have HXC1 := Aside0.mk hc1
  have HWF1 := Aside0.mk hwf1
  clear hI1 hx1 hc1 hwf1
  obtain ⟨N, hN⟩ : ∃ N : Nat, N = min 40 x.length := ⟨_, rfl⟩
  have HN := Aside0.mk hN
  clear hT hW hc he hWP hP hN
  go_enter Tryz.func5, Tryz.ntmps5
  go_wp2_with (first | (go_at_call 20; (with_reducible refine HM.out.mono ?_); rintro e w1 ⟨bd, D, A3, c3, rfl, hD, hTab, hup1⟩; have HD := Aside0.mk hD; have HT := Aside0.mk hTab; have HU1 := Aside0.mk hup1; clear hD hTab hup1))
  have HIX : Aside0 (Ints .i32 w1 Ax x) := ⟨HI1.out.up HU1.out⟩
  go_loopg [8, 9, 10, 11, 12, 13] N (fun k v8 v9 v10 v11 v12 v13 w' => ∃ i : Nat, v8 = .int .i64 i ∧ Aside0 (i + k = N) ∧ Aside0 (Up w1 w'))
  case atStart => exact ⟨0, rfl, ⟨Nat.zero_add _⟩, ⟨up_refl _⟩⟩
  case round =>
    obtain ⟨i, rfl, HNI, HBI⟩ := hrel
    cases gk with
    | zero =>
      have hx1 : ¬ (i < x.length) ∧ ¬ ((i : Int) < (x.length : Int)) ∨ i < x.length ∧ (i : Int) < (x.length : Int) ∧ ¬ (i < 40) ∧ ¬ ((i : Int) < 40) := by have := HNI.out; have := HN.out; omega
      rcases hx1 with ⟨h8, h9⟩ | ⟨h8, h9, h10, h11⟩
      all_goals
        go_wp2
        go_ret
        exact ⟨rfl, up_trans HU1.out HBI.out⟩
    | succ k =>
      have hx1 : i < x.length := by have := HNI.out; have := HN.out; omega
      have h9 : (i : Int) < (x.length : Int) := by omega
      have h8 : (i : Int) < 40 := by have := HNI.out; have := HN.out; omega
      have h7 : 0 ≤ (i : Int) := by omega
      obtain ⟨ad, hAa, hca⟩ := HIX.out.at_ i (by omega) (by omega)
      rw [Int.toNat_natCast] at hca
      cases hAa
      have HAWa : Aside0 ((Lit.int .i32 (rd x i)).wf = true) := ⟨by rw [rd_elem x i (by omega)]; exact HWF1.out _ (List.getElem_mem _)⟩
      have HARa := Aside0.mk (wf_i32 HAWa.out)
      obtain ⟨a, hxa⟩ : ∃ a, rd x i = a := ⟨_, rfl⟩
      have HXa := Aside0.mk hxa
      rw [hxa] at hca HARa HAWa
      have HCa := Aside0.mk hca
      replace hca := up_cell HBI.out hca
      clear hxa
      clear hca
      go_upto_block 2 with fail
      go_cut [9] (fun v9 w' => Aside0 (Up w1 w'))
      case first =>
        go_wp2
        go_loopg [9, 10, 11] N (fun k v9 v10 v11 w' => ∃ j : Nat, v9 = .int .i64 j ∧ Aside0 (j + k = N) ∧ Aside0 (Up w1 w'))
        case atStart => exact ⟨0, rfl, ⟨Nat.zero_add _⟩, HBI⟩
        case round =>
          obtain ⟨j, rfl, HNJ, HB⟩ := hrel
          cases gk with
          | zero =>
            have hx2 : ¬ (j < x.length) ∧ ¬ ((j : Int) < (x.length : Int)) ∨ j < x.length ∧ (j : Int) < (x.length : Int) ∧ ¬ (j < 40) ∧ ¬ ((j : Int) < 40) := by have := HNJ.out; have := HN.out; omega
            rcases hx2 with ⟨g8, g9⟩ | ⟨g8, g9, g10, g11⟩
            all_goals
              go_wp2
              go_meet
              exact HB
          | succ k =>
            have gx1 : j < x.length := by have := HNJ.out; have := HN.out; omega
            have g9 : (j : Int) < (x.length : Int) := by omega
            have g8 : (j : Int) < 40 := by have := HNJ.out; have := HN.out; omega
            have g7 : 0 ≤ (j : Int) := by omega
            obtain ⟨ae, hAb, hcb⟩ := HIX.out.at_ j (by omega) (by omega)
            rw [Int.toNat_natCast] at hcb
            cases hAb
            have HAWb : Aside0 ((Lit.int .i32 (rd x j)).wf = true) := ⟨by rw [rd_elem x j (by omega)]; exact HWF1.out _ (List.getElem_mem _)⟩
            have HARb := Aside0.mk (wf_i32 HAWb.out)
            obtain ⟨b, hxb⟩ : ∃ b, rd x j = b := ⟨_, rfl⟩
            have HXb := Aside0.mk hxb
            rw [hxb] at hcb HARb HAWb
            have HCb := Aside0.mk hcb
            replace hcb := up_cell HB.out hcb
            clear hxb
            obtain ⟨⟨p, ok⟩, hco⟩ : ∃ r, compF P a b = r := ⟨_, rfl⟩
            have HCO := Aside0.mk hco
            clear hcb hco
            cases ok with
            | false =>
              go_wp2
              have hs0 : wr.drew.cell? ⟨bd, 7, none⟩ = some (.map (some D.bo)) ∧ wr.drew.cell? ⟨bd, 8, none⟩ = some (.map (some D.bf)) ∧ wr.drew.cell? ⟨bd, 9, none⟩ = some (.map (some D.bl)) ∧ wr.drew.cell? ⟨bd, 10, none⟩ = some (.map (some D.bc)) ∧ wr.drew.cell? ⟨bd, 11, none⟩ = some (.map (some D.bs)) ∧ wr.drew.cell? (ad.add i) = some (.int .i32 a) ∧ wr.drew.cell? (ad.add j) = some (.int .i32 b) := ⟨(HD.out.up (up_drew HB.out)).all.2.1.1, (HD.out.up (up_drew HB.out)).all.2.1.2.1, (HD.out.up (up_drew HB.out)).all.2.1.2.2.1, (HD.out.up (up_drew HB.out)).all.2.1.2.2.2.1, (HD.out.up (up_drew HB.out)).all.2.1.2.2.2.2, up_cell (up_drew HB.out) HCa.out, up_cell (up_drew HB.out) HCb.out⟩
              go_region_held3 (fun w' => w'.cell? ⟨bd, 7, none⟩ = some (.map (some D.bo)) ∧ w'.cell? ⟨bd, 8, none⟩ = some (.map (some D.bf)) ∧ w'.cell? ⟨bd, 9, none⟩ = some (.map (some D.bl)) ∧ w'.cell? ⟨bd, 10, none⟩ = some (.map (some D.bc)) ∧ w'.cell? ⟨bd, 11, none⟩ = some (.map (some D.bs)) ∧ w'.cell? (ad.add i) = some (.int .i32 a) ∧ w'.cell? (ad.add j) = some (.int .i32 b)) (first | exact hs0 | exact hs1) (first | (go_at_call 41; (with_reducible refine ((HD.out.up (up_drew HB.out)).Compose a b p false HCO.out HARa.out.1 HARa.out.2 HARb.out.1 HARb.out.2).mono ?_); rintro e w5 ⟨rfl, hup5⟩; have HB5 := Aside0.mk (up_trans (up_drew HB.out) hup5); have hs1 : w5.cell? ⟨bd, 7, none⟩ = some (.map (some D.bo)) ∧ w5.cell? ⟨bd, 8, none⟩ = some (.map (some D.bf)) ∧ w5.cell? ⟨bd, 9, none⟩ = some (.map (some D.bl)) ∧ w5.cell? ⟨bd, 10, none⟩ = some (.map (some D.bc)) ∧ w5.cell? ⟨bd, 11, none⟩ = some (.map (some D.bs)) ∧ w5.cell? (ad.add i) = some (.int .i32 a) ∧ w5.cell? (ad.add j) = some (.int .i32 b) := ⟨(HD.out.up HB5.out).all.2.1.1, (HD.out.up HB5.out).all.2.1.2.1, (HD.out.up HB5.out).all.2.1.2.2.1, (HD.out.up HB5.out).all.2.1.2.2.2.1, (HD.out.up HB5.out).all.2.1.2.2.2.2, up_cell HB5.out HCa.out, up_cell HB5.out HCb.out⟩; clear hup5))
              go_wp2
              go_quiet (fail)
              go_wp2
              go_roundg k
              case measure => have := HNJ.out; omega
              case rel => exact ⟨j + 1, rfl, ⟨by have := HNJ.out; omega⟩, ⟨up_drewN HB5.out _⟩⟩
            | true =>
              obtain ⟨e1, e2, e3, e4⟩ := comp_yes HF.out HCO.out
              have HOP := Aside0.mk e1
              have HSE := Aside0.mk e2
              have HCP := Aside0.mk e3
              have HCA := Aside0.mk e4
              have HSM : Aside0 (([a, b] == [a, b]) = true) := ⟨by simp⟩
              have HPR : Aside0 (-2147483648 ≤ p ∧ p ≤ 2147483647) := ⟨comp_range HG.out HCO.out⟩
              clear e1 e2 e3 e4
              go_wp2
              have hs0 : wr.drew.cell? ⟨bd, 7, none⟩ = some (.map (some D.bo)) ∧ wr.drew.cell? ⟨bd, 8, none⟩ = some (.map (some D.bf)) ∧ wr.drew.cell? ⟨bd, 9, none⟩ = some (.map (some D.bl)) ∧ wr.drew.cell? ⟨bd, 10, none⟩ = some (.map (some D.bc)) ∧ wr.drew.cell? ⟨bd, 11, none⟩ = some (.map (some D.bs)) ∧ wr.drew.cell? (ad.add i) = some (.int .i32 a) ∧ wr.drew.cell? (ad.add j) = some (.int .i32 b) := ⟨(HD.out.up (up_drew HB.out)).all.2.1.1, (HD.out.up (up_drew HB.out)).all.2.1.2.1, (HD.out.up (up_drew HB.out)).all.2.1.2.2.1, (HD.out.up (up_drew HB.out)).all.2.1.2.2.2.1, (HD.out.up (up_drew HB.out)).all.2.1.2.2.2.2, up_cell (up_drew HB.out) HCa.out, up_cell (up_drew HB.out) HCb.out⟩
              go_region_held3 (fun w' => w'.cell? ⟨bd, 7, none⟩ = some (.map (some D.bo)) ∧ w'.cell? ⟨bd, 8, none⟩ = some (.map (some D.bf)) ∧ w'.cell? ⟨bd, 9, none⟩ = some (.map (some D.bl)) ∧ w'.cell? ⟨bd, 10, none⟩ = some (.map (some D.bc)) ∧ w'.cell? ⟨bd, 11, none⟩ = some (.map (some D.bs)) ∧ w'.cell? (ad.add i) = some (.int .i32 a) ∧ w'.cell? (ad.add j) = some (.int .i32 b)) (first | exact hs0 | exact hs1) (first | (go_at_call 41; (with_reducible refine ((HD.out.up (up_drew HB.out)).Compose a b p true HCO.out HARa.out.1 HARa.out.2 HARb.out.1 HARb.out.2).mono ?_); rintro e w5 ⟨rfl, hup5⟩; have HB5 := Aside0.mk (up_trans (up_drew HB.out) hup5); have hs1 : w5.cell? ⟨bd, 7, none⟩ = some (.map (some D.bo)) ∧ w5.cell? ⟨bd, 8, none⟩ = some (.map (some D.bf)) ∧ w5.cell? ⟨bd, 9, none⟩ = some (.map (some D.bl)) ∧ w5.cell? ⟨bd, 10, none⟩ = some (.map (some D.bc)) ∧ w5.cell? ⟨bd, 11, none⟩ = some (.map (some D.bs)) ∧ w5.cell? (ad.add i) = some (.int .i32 a) ∧ w5.cell? (ad.add j) = some (.int .i32 b) := ⟨(HD.out.up HB5.out).all.2.1.1, (HD.out.up HB5.out).all.2.1.2.1, (HD.out.up HB5.out).all.2.1.2.2.1, (HD.out.up HB5.out).all.2.1.2.2.2.1, (HD.out.up HB5.out).all.2.1.2.2.2.2, up_cell HB5.out HCa.out, up_cell HB5.out HCb.out⟩; clear hup5))
              clear hs0 hs1
              go_wp2
              have hs0 : w5.drew.cell? ⟨bd, 7, none⟩ = some (.map (some D.bo)) ∧ w5.drew.cell? ⟨bd, 8, none⟩ = some (.map (some D.bf)) ∧ w5.drew.cell? ⟨bd, 9, none⟩ = some (.map (some D.bl)) ∧ w5.drew.cell? ⟨bd, 10, none⟩ = some (.map (some D.bc)) ∧ w5.drew.cell? ⟨bd, 11, none⟩ = some (.map (some D.bs)) ∧ w5.drew.cell? ⟨bd, 3, none⟩ = some (.pointer (some ⟨D.b3, 0, none⟩)) ∧ w5.drew.cell? (ad.add i) = some (.int .i32 a) ∧ w5.drew.cell? (ad.add j) = some (.int .i32 b) := ⟨(HD.out.up (up_drew HB5.out)).all.2.1.1, (HD.out.up (up_drew HB5.out)).all.2.1.2.1, (HD.out.up (up_drew HB5.out)).all.2.1.2.2.1, (HD.out.up (up_drew HB5.out)).all.2.1.2.2.2.1, (HD.out.up (up_drew HB5.out)).all.2.1.2.2.2.2, (HD.out.up (up_drew HB5.out)).all.1.2.2.2.1, up_cell (up_drew HB5.out) HCa.out, up_cell (up_drew HB5.out) HCb.out⟩
              have HB5c : Aside0 (Up w1 ((w5.alloc (.cells #[.int .i32 a, .int .i32 b] 21)).drew)) := ⟨up_drew (up_alloc HB5.out _)⟩
              have HL5 : Aside0 (Ints .i32 ((w5.alloc (.cells #[.int .i32 a, .int .i32 b] 21)).drew) (some ⟨w5.heap.size, 0, none⟩) [a, b]) := ⟨(ints_new w5 [a, b]).up (up_drew (up_refl _))⟩
              have hs0b : ((w5.alloc (.cells #[.int .i32 a, .int .i32 b] 21)).drew).cell? ⟨bd, 7, none⟩ = some (.map (some D.bo)) ∧ ((w5.alloc (.cells #[.int .i32 a, .int .i32 b] 21)).drew).cell? ⟨bd, 8, none⟩ = some (.map (some D.bf)) ∧ ((w5.alloc (.cells #[.int .i32 a, .int .i32 b] 21)).drew).cell? ⟨bd, 9, none⟩ = some (.map (some D.bl)) ∧ ((w5.alloc (.cells #[.int .i32 a, .int .i32 b] 21)).drew).cell? ⟨bd, 10, none⟩ = some (.map (some D.bc)) ∧ ((w5.alloc (.cells #[.int .i32 a, .int .i32 b] 21)).drew).cell? ⟨bd, 11, none⟩ = some (.map (some D.bs)) ∧ ((w5.alloc (.cells #[.int .i32 a, .int .i32 b] 21)).drew).cell? ⟨bd, 3, none⟩ = some (.pointer (some ⟨D.b3, 0, none⟩)) ∧ ((w5.alloc (.cells #[.int .i32 a, .int .i32 b] 21)).drew).cell? (ad.add i) = some (.int .i32 a) ∧ ((w5.alloc (.cells #[.int .i32 a, .int .i32 b] 21)).drew).cell? (ad.add j) = some (.int .i32 b) := ⟨(HD.out.up HB5c.out).all.2.1.1, (HD.out.up HB5c.out).all.2.1.2.1, (HD.out.up HB5c.out).all.2.1.2.2.1, (HD.out.up HB5c.out).all.2.1.2.2.2.1, (HD.out.up HB5c.out).all.2.1.2.2.2.2, (HD.out.up HB5c.out).all.1.2.2.2.1, up_cell HB5c.out HCa.out, up_cell HB5c.out HCb.out⟩
              go_region_held3 (fun w' => w'.cell? ⟨bd, 7, none⟩ = some (.map (some D.bo)) ∧ w'.cell? ⟨bd, 8, none⟩ = some (.map (some D.bf)) ∧ w'.cell? ⟨bd, 9, none⟩ = some (.map (some D.bl)) ∧ w'.cell? ⟨bd, 10, none⟩ = some (.map (some D.bc)) ∧ w'.cell? ⟨bd, 11, none⟩ = some (.map (some D.bs)) ∧ w'.cell? ⟨bd, 3, none⟩ = some (.pointer (some ⟨D.b3, 0, none⟩)) ∧ w'.cell? (ad.add i) = some (.int .i32 a) ∧ w'.cell? (ad.add j) = some (.int .i32 b)) (first | exact hs0 | exact hs0b | exact hs6 | exact hs6b | exact hs7 | exact hs8 | exact hs9 | exact hs10) (first | (go_at_call 42; (with_reducible refine ((HD.out.up (up_drew HB5.out)).Open HG.out p [a, b] HOP.out HPR.out.1 HPR.out.2).mono ?_); rintro e w6 ⟨v6, rfl, hown6, hup6⟩; obtain ⟨A6, c6, rfl, hi6, _⟩ := own_ints hown6; have HB6 := Aside0.mk (up_trans (up_drew HB5.out) hup6); have HI6 := Aside0.mk (hi6.up (up_alloc (up_refl w6) (.cells #[.int .i32 a, .int .i32 b] 21))); have HL6 : Aside0 (Ints .i32 (w6.alloc (.cells #[.int .i32 a, .int .i32 b] 21)) (some ⟨w6.heap.size, 0, none⟩) [a, b]) := ⟨ints_new w6 [a, b]⟩; have HB6b := Aside0.mk (up_alloc HB6.out (.cells #[.int .i32 a, .int .i32 b] 21)); have hs6 : w6.cell? ⟨bd, 7, none⟩ = some (.map (some D.bo)) ∧ w6.cell? ⟨bd, 8, none⟩ = some (.map (some D.bf)) ∧ w6.cell? ⟨bd, 9, none⟩ = some (.map (some D.bl)) ∧ w6.cell? ⟨bd, 10, none⟩ = some (.map (some D.bc)) ∧ w6.cell? ⟨bd, 11, none⟩ = some (.map (some D.bs)) ∧ w6.cell? ⟨bd, 3, none⟩ = some (.pointer (some ⟨D.b3, 0, none⟩)) ∧ w6.cell? (ad.add i) = some (.int .i32 a) ∧ w6.cell? (ad.add j) = some (.int .i32 b) := ⟨(HD.out.up HB6.out).all.2.1.1, (HD.out.up HB6.out).all.2.1.2.1, (HD.out.up HB6.out).all.2.1.2.2.1, (HD.out.up HB6.out).all.2.1.2.2.2.1, (HD.out.up HB6.out).all.2.1.2.2.2.2, (HD.out.up HB6.out).all.1.2.2.2.1, up_cell HB6.out HCa.out, up_cell HB6.out HCb.out⟩; have hs6b : (w6.alloc (.cells #[.int .i32 a, .int .i32 b] 21)).cell? ⟨bd, 7, none⟩ = some (.map (some D.bo)) ∧ (w6.alloc (.cells #[.int .i32 a, .int .i32 b] 21)).cell? ⟨bd, 8, none⟩ = some (.map (some D.bf)) ∧ (w6.alloc (.cells #[.int .i32 a, .int .i32 b] 21)).cell? ⟨bd, 9, none⟩ = some (.map (some D.bl)) ∧ (w6.alloc (.cells #[.int .i32 a, .int .i32 b] 21)).cell? ⟨bd, 10, none⟩ = some (.map (some D.bc)) ∧ (w6.alloc (.cells #[.int .i32 a, .int .i32 b] 21)).cell? ⟨bd, 11, none⟩ = some (.map (some D.bs)) ∧ (w6.alloc (.cells #[.int .i32 a, .int .i32 b] 21)).cell? ⟨bd, 3, none⟩ = some (.pointer (some ⟨D.b3, 0, none⟩)) ∧ (w6.alloc (.cells #[.int .i32 a, .int .i32 b] 21)).cell? (ad.add i) = some (.int .i32 a) ∧ (w6.alloc (.cells #[.int .i32 a, .int .i32 b] 21)).cell? (ad.add j) = some (.int .i32 b) := ⟨(HD.out.up HB6b.out).all.2.1.1, (HD.out.up HB6b.out).all.2.1.2.1, (HD.out.up HB6b.out).all.2.1.2.2.1, (HD.out.up HB6b.out).all.2.1.2.2.2.1, (HD.out.up HB6b.out).all.2.1.2.2.2.2, (HD.out.up HB6b.out).all.1.2.2.2.1, up_cell HB6b.out HCa.out, up_cell HB6b.out HCb.out⟩; clear hup6 hown6 hi6) | (go_at_call 42; (with_reducible refine ((HD.out.up HB5c.out).Open HG.out p [a, b] HOP.out HPR.out.1 HPR.out.2).mono ?_); rintro e w6 ⟨v6, rfl, hown6, hup6⟩; obtain ⟨A6, c6, rfl, hi6, _⟩ := own_ints hown6; have HB6b := Aside0.mk (up_trans HB5c.out hup6); have HI6 := Aside0.mk hi6; have HL6 := Aside0.mk (HL5.out.up hup6); have hs6b : w6.cell? ⟨bd, 7, none⟩ = some (.map (some D.bo)) ∧ w6.cell? ⟨bd, 8, none⟩ = some (.map (some D.bf)) ∧ w6.cell? ⟨bd, 9, none⟩ = some (.map (some D.bl)) ∧ w6.cell? ⟨bd, 10, none⟩ = some (.map (some D.bc)) ∧ w6.cell? ⟨bd, 11, none⟩ = some (.map (some D.bs)) ∧ w6.cell? ⟨bd, 3, none⟩ = some (.pointer (some ⟨D.b3, 0, none⟩)) ∧ w6.cell? (ad.add i) = some (.int .i32 a) ∧ w6.cell? (ad.add j) = some (.int .i32 b) := ⟨(HD.out.up HB6b.out).all.2.1.1, (HD.out.up HB6b.out).all.2.1.2.1, (HD.out.up HB6b.out).all.2.1.2.2.1, (HD.out.up HB6b.out).all.2.1.2.2.2.1, (HD.out.up HB6b.out).all.2.1.2.2.2.2, (HD.out.up HB6b.out).all.1.2.2.2.1, up_cell HB6b.out HCa.out, up_cell HB6b.out HCb.out⟩; clear hup6 hown6 hi6) | (go_at_call 30; (with_reducible refine (SameN_calls A6 (some ⟨w6.heap.size, 0, none⟩) 2 2 c6 2 [a, b] [a, b] _ HI6.out HL6.out rfl rfl (by decide) (by decide) true HSM.out).mono ?_); rintro e w7 ⟨rfl, hup7⟩; have HB7 := Aside0.mk (up_trans HB6b.out hup7); have hs7 : w7.cell? ⟨bd, 7, none⟩ = some (.map (some D.bo)) ∧ w7.cell? ⟨bd, 8, none⟩ = some (.map (some D.bf)) ∧ w7.cell? ⟨bd, 9, none⟩ = some (.map (some D.bl)) ∧ w7.cell? ⟨bd, 10, none⟩ = some (.map (some D.bc)) ∧ w7.cell? ⟨bd, 11, none⟩ = some (.map (some D.bs)) ∧ w7.cell? ⟨bd, 3, none⟩ = some (.pointer (some ⟨D.b3, 0, none⟩)) ∧ w7.cell? (ad.add i) = some (.int .i32 a) ∧ w7.cell? (ad.add j) = some (.int .i32 b) := ⟨(HD.out.up HB7.out).all.2.1.1, (HD.out.up HB7.out).all.2.1.2.1, (HD.out.up HB7.out).all.2.1.2.2.1, (HD.out.up HB7.out).all.2.1.2.2.2.1, (HD.out.up HB7.out).all.2.1.2.2.2.2, (HD.out.up HB7.out).all.1.2.2.2.1, up_cell HB7.out HCa.out, up_cell HB7.out HCb.out⟩; clear hup7) | (go_at_call 30; (with_reducible refine (SameN_calls A6 (some ⟨w5.heap.size, 0, none⟩) 2 2 c6 2 [a, b] [a, b] _ HI6.out HL6.out rfl rfl (by decide) (by decide) true HSM.out).mono ?_); rintro e w7 ⟨rfl, hup7⟩; have HB7 := Aside0.mk (up_trans HB6b.out hup7); have hs7 : w7.cell? ⟨bd, 7, none⟩ = some (.map (some D.bo)) ∧ w7.cell? ⟨bd, 8, none⟩ = some (.map (some D.bf)) ∧ w7.cell? ⟨bd, 9, none⟩ = some (.map (some D.bl)) ∧ w7.cell? ⟨bd, 10, none⟩ = some (.map (some D.bc)) ∧ w7.cell? ⟨bd, 11, none⟩ = some (.map (some D.bs)) ∧ w7.cell? ⟨bd, 3, none⟩ = some (.pointer (some ⟨D.b3, 0, none⟩)) ∧ w7.cell? (ad.add i) = some (.int .i32 a) ∧ w7.cell? (ad.add j) = some (.int .i32 b) := ⟨(HD.out.up HB7.out).all.2.1.1, (HD.out.up HB7.out).all.2.1.2.1, (HD.out.up HB7.out).all.2.1.2.2.1, (HD.out.up HB7.out).all.2.1.2.2.2.1, (HD.out.up HB7.out).all.2.1.2.2.2.2, (HD.out.up HB7.out).all.1.2.2.2.1, up_cell HB7.out HCa.out, up_cell HB7.out HCb.out⟩; clear hup7) | (go_at_call 43; (with_reducible refine ((HD.out.up HB7.out).Second b true HSE.out HARb.out.1 HARb.out.2).mono ?_); rintro e w8 ⟨rfl, hup8⟩; have HB8 := Aside0.mk (up_trans HB7.out hup8); have hs8 : w8.cell? ⟨bd, 7, none⟩ = some (.map (some D.bo)) ∧ w8.cell? ⟨bd, 8, none⟩ = some (.map (some D.bf)) ∧ w8.cell? ⟨bd, 9, none⟩ = some (.map (some D.bl)) ∧ w8.cell? ⟨bd, 10, none⟩ = some (.map (some D.bc)) ∧ w8.cell? ⟨bd, 11, none⟩ = some (.map (some D.bs)) ∧ w8.cell? ⟨bd, 3, none⟩ = some (.pointer (some ⟨D.b3, 0, none⟩)) ∧ w8.cell? (ad.add i) = some (.int .i32 a) ∧ w8.cell? (ad.add j) = some (.int .i32 b) := ⟨(HD.out.up HB8.out).all.2.1.1, (HD.out.up HB8.out).all.2.1.2.1, (HD.out.up HB8.out).all.2.1.2.2.1, (HD.out.up HB8.out).all.2.1.2.2.2.1, (HD.out.up HB8.out).all.2.1.2.2.2.2, (HD.out.up HB8.out).all.1.2.2.2.1, up_cell HB8.out HCa.out, up_cell HB8.out HCb.out⟩; clear hup8) | (go_at_call 32; (with_reducible refine ((HD.out.up HB9.out).Class HG.out a 0 HCA.out HARa.out.1 HARa.out.2).mono ?_); rintro e w10 ⟨rfl, hup10⟩; have HB10 := Aside0.mk (up_trans HB9.out hup10); have hs10 : w10.cell? ⟨bd, 7, none⟩ = some (.map (some D.bo)) ∧ w10.cell? ⟨bd, 8, none⟩ = some (.map (some D.bf)) ∧ w10.cell? ⟨bd, 9, none⟩ = some (.map (some D.bl)) ∧ w10.cell? ⟨bd, 10, none⟩ = some (.map (some D.bc)) ∧ w10.cell? ⟨bd, 11, none⟩ = some (.map (some D.bs)) ∧ w10.cell? ⟨bd, 3, none⟩ = some (.pointer (some ⟨D.b3, 0, none⟩)) ∧ w10.cell? (ad.add i) = some (.int .i32 a) ∧ w10.cell? (ad.add j) = some (.int .i32 b) := ⟨(HD.out.up HB10.out).all.2.1.1, (HD.out.up HB10.out).all.2.1.2.1, (HD.out.up HB10.out).all.2.1.2.2.1, (HD.out.up HB10.out).all.2.1.2.2.2.1, (HD.out.up HB10.out).all.2.1.2.2.2.2, (HD.out.up HB10.out).all.1.2.2.2.1, up_cell HB10.out HCa.out, up_cell HB10.out HCb.out⟩; clear hup10) | (go_at_call 32; (with_reducible refine ((HD.out.up HB8.out).Class HG.out p 0 HCP.out HPR.out.1 HPR.out.2).mono ?_); rintro e w9 ⟨rfl, hup9⟩; have HB9 := Aside0.mk (up_trans HB8.out hup9); have hs9 : w9.cell? ⟨bd, 7, none⟩ = some (.map (some D.bo)) ∧ w9.cell? ⟨bd, 8, none⟩ = some (.map (some D.bf)) ∧ w9.cell? ⟨bd, 9, none⟩ = some (.map (some D.bl)) ∧ w9.cell? ⟨bd, 10, none⟩ = some (.map (some D.bc)) ∧ w9.cell? ⟨bd, 11, none⟩ = some (.map (some D.bs)) ∧ w9.cell? ⟨bd, 3, none⟩ = some (.pointer (some ⟨D.b3, 0, none⟩)) ∧ w9.cell? (ad.add i) = some (.int .i32 a) ∧ w9.cell? (ad.add j) = some (.int .i32 b) := ⟨(HD.out.up HB9.out).all.2.1.1, (HD.out.up HB9.out).all.2.1.2.1, (HD.out.up HB9.out).all.2.1.2.2.1, (HD.out.up HB9.out).all.2.1.2.2.2.1, (HD.out.up HB9.out).all.2.1.2.2.2.2, (HD.out.up HB9.out).all.1.2.2.2.1, up_cell HB9.out HCa.out, up_cell HB9.out HCb.out⟩; clear hup9))
              all_goals
                go_wp2
                go_roundg k
                case measure => have := HNJ.out; omega
                case rel => exact ⟨j + 1, rfl, ⟨by have := HNJ.out; omega⟩, HB10⟩
      case rest =>
        have HB := hcut
        have hca := up_cell HB.out HCa.out
        obtain ⟨l, hl⟩ : ∃ l, fullL P a = l := ⟨_, rfl⟩
        have HFL := Aside0.mk hl
        have HLP : Aside0 ((∀ z ∈ l, openF P z = []) ∧ l ≠ [] ∧ l.length ≤ 32 ∧ InI32 l) := ⟨by
          have h1 := HF.out.full_shut a
          have h2 := HF.out.full a
          rw [hl] at h1 h2
          exact ⟨h1.1, h1.2, fullF_len h2, fullF_range HWP.out HARa.out.1 HARa.out.2 h2⟩⟩
        clear hl
        go_wp2
        have hs0 : wc.drew.cell? ⟨bd, 7, none⟩ = some (.map (some D.bo)) ∧ wc.drew.cell? ⟨bd, 8, none⟩ = some (.map (some D.bf)) ∧ wc.drew.cell? ⟨bd, 9, none⟩ = some (.map (some D.bl)) ∧ wc.drew.cell? ⟨bd, 10, none⟩ = some (.map (some D.bc)) ∧ wc.drew.cell? ⟨bd, 11, none⟩ = some (.map (some D.bs)) ∧ wc.drew.cell? (ad.add i) = some (.int .i32 a) := ⟨(HD.out.up (up_drew HB.out)).all.2.1.1, (HD.out.up (up_drew HB.out)).all.2.1.2.1, (HD.out.up (up_drew HB.out)).all.2.1.2.2.1, (HD.out.up (up_drew HB.out)).all.2.1.2.2.2.1, (HD.out.up (up_drew HB.out)).all.2.1.2.2.2.2, up_cell (up_drew HB.out) HCa.out⟩
        go_region_held3 (fun w' => w'.cell? ⟨bd, 7, none⟩ = some (.map (some D.bo)) ∧ w'.cell? ⟨bd, 8, none⟩ = some (.map (some D.bf)) ∧ w'.cell? ⟨bd, 9, none⟩ = some (.map (some D.bl)) ∧ w'.cell? ⟨bd, 10, none⟩ = some (.map (some D.bc)) ∧ w'.cell? ⟨bd, 11, none⟩ = some (.map (some D.bs)) ∧ w'.cell? (ad.add i) = some (.int .i32 a)) (first | exact hs0 | exact hs1) (first | (go_at_call 44; (with_reducible refine ((HD.out.up (up_drew HB.out)).Full HF.out a l HFL.out HARa.out.1 HARa.out.2).mono ?_); rintro e w5 ⟨v5, rfl, hown5, hup5⟩; obtain ⟨A5, c5, rfl, hi5, _⟩ := own_ints hown5; have HB5 := Aside0.mk (up_trans (up_drew HB.out) hup5); have HI5 := Aside0.mk hi5; have hs1 : w5.cell? ⟨bd, 7, none⟩ = some (.map (some D.bo)) ∧ w5.cell? ⟨bd, 8, none⟩ = some (.map (some D.bf)) ∧ w5.cell? ⟨bd, 9, none⟩ = some (.map (some D.bl)) ∧ w5.cell? ⟨bd, 10, none⟩ = some (.map (some D.bc)) ∧ w5.cell? ⟨bd, 11, none⟩ = some (.map (some D.bs)) ∧ w5.cell? (ad.add i) = some (.int .i32 a) := ⟨(HD.out.up HB5.out).all.2.1.1, (HD.out.up HB5.out).all.2.1.2.1, (HD.out.up HB5.out).all.2.1.2.2.1, (HD.out.up HB5.out).all.2.1.2.2.2.1, (HD.out.up HB5.out).all.2.1.2.2.2.2, up_cell HB5.out HCa.out⟩; clear hup5 hown5 hi5))
        clear hs0 hs1
        go_wp2
        go_loopg [13] l.length (fun k v13 w' => ∃ q : Nat, v13 = .int .i64 q ∧ Aside0 (q + k = l.length) ∧ Aside0 (Up w5 w'))
        case atStart => exact ⟨0, rfl, ⟨Nat.zero_add _⟩, ⟨up_refl _⟩⟩
        case round =>
          obtain ⟨q, rfl, HNQ, HB6⟩ := hrel
          cases gk with
          | zero =>
            have hlt : decide ((q : Int) < (l.length : Int)) = false := decide_eq_false (by have := HNQ.out; omega)
            have hlt1 : ¬ (q < l.length) := by have := HNQ.out; omega
            have g1 : ((l.length : Int) == 0) = false := beq_eq_false_iff_ne.mpr (by have := List.length_pos_iff.2 HLP.out.2.1; omega)
            have g2 : ¬ (l.length = 0) := by have := List.length_pos_iff.2 HLP.out.2.1; omega
            go_wp2
            go_roundg k
            case measure => have := HNI.out; omega
            case rel => exact ⟨i + 1, rfl, ⟨by have := HNI.out; omega⟩, ⟨up_trans HB5.out HB6.out⟩⟩
          | succ k2 =>
            have hlt : decide ((q : Int) < (l.length : Int)) = true := decide_eq_true (by have := HNQ.out; omega)
            have hlt1 : q < l.length := by have := HNQ.out; omega
            have q7 : 0 ≤ (q : Int) := by omega
            have q9 : (q : Int) < (l.length : Int) := by omega
            have hl32 := HLP.out.2.2.1
            obtain ⟨ag, hA5, hcz⟩ := HI5.out.at_ q q7 q9
            rw [Int.toNat_natCast] at hcz
            subst hA5
            have hop : openF P (rd l q) = [] := HLP.out.1 _ (by rw [rd_elem l q hlt1]; exact List.getElem_mem _)
            have hzr : -2147483648 ≤ rd l q ∧ rd l q ≤ 2147483647 := HLP.out.2.2.2 _ (by rw [rd_elem l q hlt1]; exact List.getElem_mem _)
            obtain ⟨z, hz⟩ : ∃ z, rd l q = z := ⟨_, rfl⟩
            rw [hz] at hcz hop hzr
            have HCZ := Aside0.mk hcz
            have HOZ := Aside0.mk hop
            have HZR := Aside0.mk hzr
            have hcz6 := up_cell HB6.out hcz
            clear hz hop hzr hcz
            go_wp2
            have hs0 : wr.drew.cell? ⟨bd, 7, none⟩ = some (.map (some D.bo)) ∧ wr.drew.cell? ⟨bd, 8, none⟩ = some (.map (some D.bf)) ∧ wr.drew.cell? ⟨bd, 9, none⟩ = some (.map (some D.bl)) ∧ wr.drew.cell? ⟨bd, 10, none⟩ = some (.map (some D.bc)) ∧ wr.drew.cell? ⟨bd, 11, none⟩ = some (.map (some D.bs)) ∧ wr.drew.cell? (ag.add q) = some (.int .i32 z) := ⟨(HD.out.up (up_trans HB5.out (up_drew HB6.out))).all.2.1.1, (HD.out.up (up_trans HB5.out (up_drew HB6.out))).all.2.1.2.1, (HD.out.up (up_trans HB5.out (up_drew HB6.out))).all.2.1.2.2.1, (HD.out.up (up_trans HB5.out (up_drew HB6.out))).all.2.1.2.2.2.1, (HD.out.up (up_trans HB5.out (up_drew HB6.out))).all.2.1.2.2.2.2, up_cell (up_drew HB6.out) HCZ.out⟩
            go_region_held3 (fun w' => w'.cell? ⟨bd, 7, none⟩ = some (.map (some D.bo)) ∧ w'.cell? ⟨bd, 8, none⟩ = some (.map (some D.bf)) ∧ w'.cell? ⟨bd, 9, none⟩ = some (.map (some D.bl)) ∧ w'.cell? ⟨bd, 10, none⟩ = some (.map (some D.bc)) ∧ w'.cell? ⟨bd, 11, none⟩ = some (.map (some D.bs)) ∧ w'.cell? (ag.add q) = some (.int .i32 z)) (first | exact hs0 | exact hs1) (first | (go_at_call 42; (with_reducible refine ((HD.out.up (up_trans HB5.out (up_drew HB6.out))).Open HG.out z [] HOZ.out HZR.out.1 HZR.out.2).mono ?_); rintro e w7 ⟨v7, rfl, hown7, hup7⟩; obtain ⟨A7, c7, rfl, hi7, _⟩ := own_ints hown7; have HB7 := Aside0.mk (up_trans (up_drew HB6.out) hup7); have hs1 : w7.cell? ⟨bd, 7, none⟩ = some (.map (some D.bo)) ∧ w7.cell? ⟨bd, 8, none⟩ = some (.map (some D.bf)) ∧ w7.cell? ⟨bd, 9, none⟩ = some (.map (some D.bl)) ∧ w7.cell? ⟨bd, 10, none⟩ = some (.map (some D.bc)) ∧ w7.cell? ⟨bd, 11, none⟩ = some (.map (some D.bs)) ∧ w7.cell? (ag.add q) = some (.int .i32 z) := ⟨(HD.out.up (up_trans HB5.out HB7.out)).all.2.1.1, (HD.out.up (up_trans HB5.out HB7.out)).all.2.1.2.1, (HD.out.up (up_trans HB5.out HB7.out)).all.2.1.2.2.1, (HD.out.up (up_trans HB5.out HB7.out)).all.2.1.2.2.2.1, (HD.out.up (up_trans HB5.out HB7.out)).all.2.1.2.2.2.2, up_cell HB7.out HCZ.out⟩; clear hup7 hown7 hi7))
            clear hs0 hs1
            go_wp2
            go_roundg k2
            case measure => have := HNQ.out; omega
            case rel => exact ⟨q + 1, rfl, ⟨by have := HNQ.out; omega⟩, HB7⟩
end Go.Proofs.YthneeainigdmhaaGreat.M
