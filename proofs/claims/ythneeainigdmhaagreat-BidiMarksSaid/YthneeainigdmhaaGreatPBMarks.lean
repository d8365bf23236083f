/- BidiMarks, walked. (printed by mkbidil.py) -/
import Derived.Test.YthneeainigdmhaaGreatPTold17
import Derived.Test.YthneeainigdmhaaGreatK37
import Derived.Test.YthneeainigdmhaaGreatPJNear4
set_option linter.unusedVariables false
set_option linter.unusedSimpArgs false
namespace Go.Proofs.YthneeainigdmhaaGreat.M
open Go.RowKit
set_option maxHeartbeats 16000000
set_option maxRecDepth 100000

theorem BidiMarks_no (A : Option Addr) (c : Nat) (T : List Rec) (A1 : Option Addr) (n1 c1 : Nat) (A2 : Option Addr) (n2 c2 : Nat) (w : World) (hT : Table w A T) (hW : ∀ x ∈ T, x.Wf) (hc : T.length ≤ c) (he : (checkE (T.take 150)).2 ≠ 0) :
    Calls Tryz.prog 6 #[.slice A T.length c, .slice A1 n1 c1, .slice A2 n2 c2] w fun e w' => e = .returned (.bool true) ∧ Up w w' := by
  have HM := Aside0.mk (Made_no A c T w hT hW hc he)
  clear hT hW hc he
  go_enter Tryz.func6, Tryz.ntmps6
  go_wp2_with (first | (go_at_call 20; (with_reducible refine HM.out.mono ?_); rintro e w1 ⟨rfl, hup1⟩) | (go_at_call 45; (with_reducible refine (told17_calls _).mono ?_); rintro e w2 ⟨rfl, hup2⟩))
  go_ret
  exact ⟨rfl, up_trans hup1 hup2⟩
theorem BidiMarks_yes (A : Option Addr) (c : Nat) (T P : List Rec) (Ax : Option Addr) (x : List Int) (cx : Nat) (Am : Option Addr) (m : List Int) (cm : Nat) (w : World) (hP : T.take 150 = P) (hT : Table w A T) (hW : ∀ x ∈ T, x.Wf) (hc : T.length ≤ c) (he : (checkE P).2 = 0)
    (hI1 : Ints .i32 w Ax x) (hx1 : x.length < 4611686018427387904) (hc1 : x.length ≤ cx) (hwf1 : ∀ z ∈ x, (Lit.int .i32 z).wf = true)
    (hI2 : Ints .i32 w Am m) (hx2 : m.length < 4611686018427387904) (hc2 : m.length ≤ cm) (hwf2 : ∀ z ∈ m, (Lit.int .i32 z).wf = true) :
    Calls Tryz.prog 6 #[.slice A T.length c, .slice Ax x.length cx, .slice Am m.length cm] w fun e w' => e = .returned (.bool true) ∧ Up w w' := by
  have HM := Aside0.mk (Made_yes A c T P w hP hT hW hc he)
  have hWP : ∀ x ∈ P, x.Wf := fun x hx => hW x (by rw [← hP] at hx; exact List.mem_of_mem_take hx)
  have HF := Aside0.mk (fine_of hWP he)
  have HG := Aside0.mk (fine_of hWP he).toGood
  have HWP := Aside0.mk hWP
  have HPT : Aside0 (P.length ≤ 4096) := ⟨by rw [← hP, List.length_take]; omega⟩
  have HI1 := Aside0.mk hI1
  have HX1 := Aside0.mk hx1
  have HXC1 := Aside0.mk hc1
  have HWF1 := Aside0.mk hwf1
  clear hI1 hx1 hc1 hwf1
  have HIm := Aside0.mk hI2
  have HXm := Aside0.mk hx2
  have HXCm := Aside0.mk hc2
  have HWFm := Aside0.mk hwf2
  clear hI2 hx2 hc2 hwf2
  obtain ⟨y, hy⟩ : ∃ y, x.take 60 = y := ⟨_, rfl⟩
  have HYW : Aside0 (∀ z ∈ y, (Lit.int .i32 z).wf = true) := ⟨fun z hz => HWF1.out z (by rw [← hy] at hz; exact List.mem_of_mem_take hz)⟩
  have HYL : Aside0 (y.length ≤ 60) := ⟨by rw [← hy, List.length_take]; omega⟩
  have HY := Aside0.mk hy
  obtain ⟨r, hr⟩ : ∃ r, rulesF (bdF P) y = r := ⟨_, rfl⟩
  have HR := Aside0.mk hr
  obtain ⟨hb, hhb⟩ : ∃ hb, hasF (bdF P) y = hb := ⟨_, rfl⟩
  have HH := Aside0.mk hhb
  have hrc := rules_cases (bdF P) y
  rw [hr] at hrc
  have hrp : hb = false → r = 0 ∨ r = 1 ∨ r = 32 := fun h => by
    have := rules_plain (bdF P) y (hhb.trans h)
    rwa [hr] at this
  have g0 : ¬ (r < 0) := by omega
  have g1 : ¬ (63 < r) := by omega
  have g2 : hb = false → (bits .and .i64 r 14 != 0) = false := fun h => by
    rcases hrp h with e | e | e <;> (rw [e]; decide)
  have HG2 := Aside0.mk g2
  obtain ⟨N, hN⟩ : ∃ N : Nat, N = min 60 m.length := ⟨_, rfl⟩
  have HN := Aside0.mk hN
  obtain ⟨ie, ze, hie, hze, hsi, hby, hzc⟩ := i32_info
  clear hT hW hc he hWP hP hy hr hhb hrc hrp hN g2
  by_cases hr0 : r = 0
  · subst hr0
    by_cases hy0 : y = []
    · have hyl : y.length = 0 := by rw [hy0]; rfl
      have g3 : ((y.length : Int) == 0) = true := beq_iff_eq.mpr (by omega)
      clear hy0 g0 g1 hyl
      cases hb
      all_goals
        go_enter Tryz.func6, Tryz.ntmps6
        go_wp2_with (first | (go_at_call 20; (with_reducible refine HM.out.mono ?_); rintro e w1 ⟨bd, D, A3, c3, rfl, hD, hTab, hup1⟩; have HD := Aside0.mk hD; have HT := Aside0.mk hTab; have HU1 := Aside0.mk hup1; clear hD hTab hup1) | (go_at_call 46; (with_reducible refine (few17_at Ax cx x y 60 60 rfl _ (HI1.out.up HU1.out) HX1.out HXC1.out (by decide) HY.out).mono ?_); rintro e w2 ⟨v2, rfl, hown2, hup2⟩; obtain ⟨A2, c2, rfl, hi2, _⟩ := own_ints hown2; have HB2 := Aside0.mk (up_trans (up_refl w1) hup2); have HS2 := Aside0.mk hup2; have HI2 := Aside0.mk hi2; have HO2 := Aside0.mk hown2; clear hown2 hup2 hi2) | (go_at_call 47; (with_reducible refine (Rules_calls (HD.out.up HB2.out) HG.out A2 c2 y HI2.out (Nat.lt_of_le_of_lt HYL.out (by decide)) HYW.out 0 HR.out).mono ?_); rintro e w3 ⟨rfl, hup3⟩; have HB3 := Aside0.mk (up_trans HB2.out hup3); have HI3 := Aside0.mk (HI2.out.up hup3); have HO3 := Aside0.mk (own_up HO2.out hup3); have HBL := HB3; have HIL := HI3; have HOL := HO3; clear hup3) | (go_at_call 48; (with_reducible refine (Has_calls (HD.out.up HB3.out) HG.out A2 c2 y HI3.out (Nat.lt_of_le_of_lt HYL.out (by decide)) HYW.out _ HH.out).mono ?_); rintro e w4 ⟨rfl, hup4⟩; have HBL := Aside0.mk (up_trans HB3.out hup4); have HIL := Aside0.mk (HI3.out.up hup4); have HOL := Aside0.mk (own_up HO3.out hup4); clear hup4))
        go_ret
        exact ⟨rfl, up_trans HU1.out HBL.out⟩
    · have hyp : 0 < y.length := List.length_pos_iff.2 hy0
      have g3 : ((y.length : Int) == 0) = false := beq_eq_false_iff_ne.mpr (by omega)
      have g4 : ¬ (y.length = 0) := by omega
      have HY0 := Aside0.mk hy0
      clear hy0 g0 g1
      cases hb
      all_goals
        go_enter Tryz.func6, Tryz.ntmps6
        go_wp2_with (first | (go_at_call 20; (with_reducible refine HM.out.mono ?_); rintro e w1 ⟨bd, D, A3, c3, rfl, hD, hTab, hup1⟩; have HD := Aside0.mk hD; have HT := Aside0.mk hTab; have HU1 := Aside0.mk hup1; clear hD hTab hup1) | (go_at_call 46; (with_reducible refine (few17_at Ax cx x y 60 60 rfl _ (HI1.out.up HU1.out) HX1.out HXC1.out (by decide) HY.out).mono ?_); rintro e w2 ⟨v2, rfl, hown2, hup2⟩; obtain ⟨A2, c2, rfl, hi2, _⟩ := own_ints hown2; have HB2 := Aside0.mk (up_trans (up_refl w1) hup2); have HS2 := Aside0.mk hup2; have HI2 := Aside0.mk hi2; have HO2 := Aside0.mk hown2; clear hown2 hup2 hi2) | (go_at_call 47; (with_reducible refine (Rules_calls (HD.out.up HB2.out) HG.out A2 c2 y HI2.out (Nat.lt_of_le_of_lt HYL.out (by decide)) HYW.out 0 HR.out).mono ?_); rintro e w3 ⟨rfl, hup3⟩; have HB3 := Aside0.mk (up_trans HB2.out hup3); have HI3 := Aside0.mk (HI2.out.up hup3); have HO3 := Aside0.mk (own_up HO2.out hup3); have HBL := HB3; have HIL := HI3; have HOL := HO3; clear hup3) | (go_at_call 48; (with_reducible refine (Has_calls (HD.out.up HB3.out) HG.out A2 c2 y HI3.out (Nat.lt_of_le_of_lt HYL.out (by decide)) HYW.out _ HH.out).mono ?_); rintro e w4 ⟨rfl, hup4⟩; have HBL := Aside0.mk (up_trans HB3.out hup4); have HIL := Aside0.mk (HI3.out.up hup4); have HOL := Aside0.mk (own_up HO3.out hup4); clear hup4))
        obtain ⟨w0, hw0⟩ : ∃ w0 : World, w0 = w1 := ⟨_, rfl⟩
        go_loopg [10, 12] N (fun k v10 v12 w' => ∃ (i : Nat) (q : List Int) (Aq : Option Addr) (cq : Nat), v10 = .slice Aq q.length cq ∧ v12 = .int .i64 i ∧ Aside0 (i + k = N) ∧ Aside0 (q.length ≤ 60 + i ∧ (∃ mk, q = y ++ mk ∧ ∀ c ∈ mk, bdF P c = 10) ∧ ∀ z ∈ q, (Lit.int .i32 z).wf = true) ∧ Aside0 (w'.ownsRow w1.heap.size 21 1 (.slice Aq q.length cq) q.length (q.map (Value.int .i32))) ∧ Aside0 (Up w1 w'))
        case atStart => exact ⟨0, y, A2, c2, rfl, rfl, ⟨Nat.zero_add _⟩, ⟨HYL.out, ⟨[], (List.append_nil _).symm, fun c hc => by cases hc⟩, HYW.out⟩, HOL, HBL⟩
        case round =>
          obtain ⟨i, q, Aq, cq, rfl, rfl, HNI, HQ, HOQ, HB⟩ := hrel
          cases gk with
          | zero =>
            have HQI : Aside0 (Ints .i32 wr Aq q) := ⟨own_ints' HOQ.out⟩
            have HQR : Aside0 (rulesF (bdF P) q = 0) := ⟨by
              obtain ⟨mk, hq, hmk⟩ := HQ.out.2.1
              rw [hq, rules_marks _ _ _ HY0.out hmk]
              exact HR.out⟩
            have HQL : Aside0 (q.length < 4611686018427387904) := ⟨by have := HQ.out.1; have := HNI.out; have := HN.out; omega⟩
            by_cases hx1 : i < m.length
            · have h9 : (i : Int) < (m.length : Int) := by omega
              have h8 : ¬ ((i : Int) < 60) := by have := HNI.out; have := HN.out; omega
              go_wp2_with (first | (go_at_call 47; (with_reducible refine (Rules_calls (HD.out.up HB.out) HG.out Aq cq q HQI.out HQL.out HQ.out.2.2 0 HQR.out).mono ?_); rintro e w5 ⟨rfl, hup5⟩))
              go_ret
              exact ⟨rfl, up_trans HU1.out (up_trans HB.out hup5)⟩
            · have h9 : ¬ ((i : Int) < (m.length : Int)) := by omega
              go_wp2_with (first | (go_at_call 47; (with_reducible refine (Rules_calls (HD.out.up HB.out) HG.out Aq cq q HQI.out HQL.out HQ.out.2.2 0 HQR.out).mono ?_); rintro e w5 ⟨rfl, hup5⟩))
              go_ret
              exact ⟨rfl, up_trans HU1.out (up_trans HB.out hup5)⟩
          | succ k =>
            have hx1 : i < m.length := by have := HNI.out; have := HN.out; omega
            have h9 : (i : Int) < (m.length : Int) := by omega
            have h8 : (i : Int) < 60 := by have := HNI.out; have := HN.out; omega
            have h7 : 0 ≤ (i : Int) := by omega
            have HIM : Aside0 (Ints .i32 w1 Am m) := ⟨HIm.out.up HU1.out⟩
            have HLEN : Aside0 (q.length + 1 ≤ maxLen ∧ (q.length + 1) * 4 ≤ 140737488355328) := ⟨by have := HQ.out.1; unfold maxLen; omega⟩
            obtain ⟨ad, hAa, hca⟩ := HIM.out.at_ i (by omega) (by omega)
            rw [Int.toNat_natCast] at hca
            cases hAa
            have HAWa : Aside0 ((Lit.int .i32 (rd m i)).wf = true) := ⟨by rw [rd_elem m i (by omega)]; exact HWFm.out _ (List.getElem_mem _)⟩
            have HARa := Aside0.mk (wf_i32 HAWa.out)
            obtain ⟨a, hxa⟩ : ∃ a, rd m i = a := ⟨_, rfl⟩
            have HXa := Aside0.mk hxa
            rw [hxa] at hca HARa HAWa
            have HCa := Aside0.mk hca
            replace hca := up_cell HB.out hca
            clear hxa
            obtain ⟨y1, hy1⟩ : ∃ y1, bdF P a = y1 := ⟨_, rfl⟩
            have HYy1 := Aside0.mk hy1
            clear hy1
            by_cases h10 : y1 = 10
            · subst h10
              go_wp2
              have hs0 : wr.drew.cell? ⟨bd, 4, none⟩ = some (.pointer (some ⟨D.b4, 0, none⟩)) ∧ wr.drew.cell? (ad.add i) = some (.int .i32 a) := ⟨((HD.out.up (up_drew HB.out)).all).1.2.2.2.2.1, up_cell (up_drew HB.out) HCa.out⟩
              go_region_held3 (fun w' => w'.cell? ⟨bd, 4, none⟩ = some (.pointer (some ⟨D.b4, 0, none⟩)) ∧ w'.cell? (ad.add i) = some (.int .i32 a)) (first | exact hs0 | exact hs1) (first | (go_at_call 34; (with_reducible refine ((HD.out.up (up_drew HB.out)).Bidi HG.out a 10 HYy1.out HARa.out.1 HARa.out.2).mono ?_); rintro e w5 ⟨rfl, hup5⟩; have HB5 := Aside0.mk (up_trans (up_drew HB.out) hup5); have HS5 := Aside0.mk (up_trans (up_drew (up_refl wr)) hup5); have hs1 : w5.cell? ⟨bd, 4, none⟩ = some (.pointer (some ⟨D.b4, 0, none⟩)) ∧ w5.cell? (ad.add i) = some (.int .i32 a) := ⟨((HD.out.up HB5.out).all).1.2.2.2.2.1, up_cell HB5.out HCa.out⟩; clear hup5))
              have hca5 := hs1.2
              have HOQ5 := Aside0.mk (own_up HOQ.out HS5.out)
              go_wp2_with (first | (at_builtin; refine (wpList_append_row _ rfl _ _ 23 rfl w1.heap.size 21 ie ze 1 4 Tryz.underlying23 hie hze hsi hby hzc (by decide) (.slice Aq q.length cq) q.length (q.map (Value.int .i32)) rfl (HOQ5.out.alloc _) (some ⟨w5.heap.size, 0, none⟩) 1 1 [.int .i32 a] rfl rfl (cells_one _ _ _) (ints_one .i32 [a]) ?ha6 ?hb6 ?hc6 ?_); (case ha6 => exact HLEN.out.1); (case hb6 => exact HLEN.out.2); (case hc6 => exact Nat.le_trans HB5.out.size (up_alloc (up_refl _) _).size); intro v6 w6 hown6 hgrow6 hat6; have HO6 : Aside0 (w6.ownsRow w1.heap.size 21 1 v6 (q ++ [a]).length ((q ++ [a]).map (Value.int .i32))) := ⟨by rw [List.length_append, List.map_append]; exact hown6⟩; obtain ⟨A6, c6, hv6⟩ := own_any HO6.out; subst hv6; have HB6 := Aside0.mk ((up_alloc HB5.out (.cells #[.int .i32 a] 21)).grown hgrow6 (up_alloc HB5.out (.cells #[.int .i32 a] 21)).size (fun k hk => (HOQ5.out.lt k hk).1)); clear hown6 hgrow6 hat6))
              go_roundg k
              case measure => have := HNI.out; omega
              case rel => exact ⟨i + 1, q ++ [a], A6, c6, by simp, rfl, ⟨by have := HNI.out; omega⟩, ⟨by have := HQ.out.1; simp; omega, by
                obtain ⟨mk, hq, hmk⟩ := HQ.out.2.1
                refine ⟨mk ++ [a], by rw [hq, List.append_assoc], fun c hc => ?_⟩
                rcases List.mem_append.1 hc with hc | hc
                · exact hmk c hc
                · rw [List.mem_singleton.1 hc]; exact HYy1.out, fun z hz => by
                rcases List.mem_append.1 hz with hz | hz
                · exact HQ.out.2.2 z hz
                · rw [List.mem_singleton.1 hz]; exact HAWa.out⟩, HO6, HB6⟩
            · have e1 : (y1 == 10) = false := beq_eq_false_iff_ne.mpr h10
              clear h10
              go_wp2
              have hs0 : wr.drew.cell? ⟨bd, 4, none⟩ = some (.pointer (some ⟨D.b4, 0, none⟩)) ∧ wr.drew.cell? (ad.add i) = some (.int .i32 a) := ⟨((HD.out.up (up_drew HB.out)).all).1.2.2.2.2.1, up_cell (up_drew HB.out) HCa.out⟩
              go_region_held3 (fun w' => w'.cell? ⟨bd, 4, none⟩ = some (.pointer (some ⟨D.b4, 0, none⟩)) ∧ w'.cell? (ad.add i) = some (.int .i32 a)) (first | exact hs0 | exact hs1) (first | (go_at_call 34; (with_reducible refine ((HD.out.up (up_drew HB.out)).Bidi HG.out a y1 HYy1.out HARa.out.1 HARa.out.2).mono ?_); rintro e w5 ⟨rfl, hup5⟩; have HB5 := Aside0.mk (up_trans (up_drew HB.out) hup5); have HS5 := Aside0.mk (up_trans (up_drew (up_refl wr)) hup5); have hs1 : w5.cell? ⟨bd, 4, none⟩ = some (.pointer (some ⟨D.b4, 0, none⟩)) ∧ w5.cell? (ad.add i) = some (.int .i32 a) := ⟨((HD.out.up HB5.out).all).1.2.2.2.2.1, up_cell HB5.out HCa.out⟩; clear hup5))
              go_wp2
              go_roundg k
              case measure => have := HNI.out; omega
              case rel => exact ⟨i + 1, q, Aq, cq, rfl, rfl, ⟨by have := HNI.out; omega⟩, ⟨by have := HQ.out.1; omega, HQ.out.2⟩, ⟨own_up HOQ.out HS5.out⟩, HB5⟩
  · have g3 : (r != 0) = true := bne_iff_ne.mpr hr0
    have g4 : (r == 0) = false := beq_eq_false_iff_ne.mpr hr0
    clear hr0
    cases hb with
    | true =>
      go_enter Tryz.func6, Tryz.ntmps6
      go_wp2_with (first | (go_at_call 20; (with_reducible refine HM.out.mono ?_); rintro e w1 ⟨bd, D, A3, c3, rfl, hD, hTab, hup1⟩; have HD := Aside0.mk hD; have HT := Aside0.mk hTab; have HU1 := Aside0.mk hup1; clear hD hTab hup1) | (go_at_call 46; (with_reducible refine (few17_at Ax cx x y 60 60 rfl _ (HI1.out.up HU1.out) HX1.out HXC1.out (by decide) HY.out).mono ?_); rintro e w2 ⟨v2, rfl, hown2, hup2⟩; obtain ⟨A2, c2, rfl, hi2, _⟩ := own_ints hown2; have HB2 := Aside0.mk (up_trans (up_refl w1) hup2); have HS2 := Aside0.mk hup2; have HI2 := Aside0.mk hi2; have HO2 := Aside0.mk hown2; clear hown2 hup2 hi2) | (go_at_call 47; (with_reducible refine (Rules_calls (HD.out.up HB2.out) HG.out A2 c2 y HI2.out (Nat.lt_of_le_of_lt HYL.out (by decide)) HYW.out r HR.out).mono ?_); rintro e w3 ⟨rfl, hup3⟩; have HB3 := Aside0.mk (up_trans HB2.out hup3); have HI3 := Aside0.mk (HI2.out.up hup3); have HO3 := Aside0.mk (own_up HO2.out hup3); have HBL := HB3; have HIL := HI3; have HOL := HO3; clear hup3) | (go_at_call 48; (with_reducible refine (Has_calls (HD.out.up HB3.out) HG.out A2 c2 y HI3.out (Nat.lt_of_le_of_lt HYL.out (by decide)) HYW.out _ HH.out).mono ?_); rintro e w4 ⟨rfl, hup4⟩; have HBL := Aside0.mk (up_trans HB3.out hup4); have HIL := Aside0.mk (HI3.out.up hup4); have HOL := Aside0.mk (own_up HO3.out hup4); clear hup4))
      go_ret
      exact ⟨rfl, up_trans HU1.out HBL.out⟩
    | false =>
      have g5 := HG2.out rfl
      go_enter Tryz.func6, Tryz.ntmps6
      go_wp2_with (first | (go_at_call 20; (with_reducible refine HM.out.mono ?_); rintro e w1 ⟨bd, D, A3, c3, rfl, hD, hTab, hup1⟩; have HD := Aside0.mk hD; have HT := Aside0.mk hTab; have HU1 := Aside0.mk hup1; clear hD hTab hup1) | (go_at_call 46; (with_reducible refine (few17_at Ax cx x y 60 60 rfl _ (HI1.out.up HU1.out) HX1.out HXC1.out (by decide) HY.out).mono ?_); rintro e w2 ⟨v2, rfl, hown2, hup2⟩; obtain ⟨A2, c2, rfl, hi2, _⟩ := own_ints hown2; have HB2 := Aside0.mk (up_trans (up_refl w1) hup2); have HS2 := Aside0.mk hup2; have HI2 := Aside0.mk hi2; have HO2 := Aside0.mk hown2; clear hown2 hup2 hi2) | (go_at_call 47; (with_reducible refine (Rules_calls (HD.out.up HB2.out) HG.out A2 c2 y HI2.out (Nat.lt_of_le_of_lt HYL.out (by decide)) HYW.out r HR.out).mono ?_); rintro e w3 ⟨rfl, hup3⟩; have HB3 := Aside0.mk (up_trans HB2.out hup3); have HI3 := Aside0.mk (HI2.out.up hup3); have HO3 := Aside0.mk (own_up HO2.out hup3); have HBL := HB3; have HIL := HI3; have HOL := HO3; clear hup3) | (go_at_call 48; (with_reducible refine (Has_calls (HD.out.up HB3.out) HG.out A2 c2 y HI3.out (Nat.lt_of_le_of_lt HYL.out (by decide)) HYW.out _ HH.out).mono ?_); rintro e w4 ⟨rfl, hup4⟩; have HBL := Aside0.mk (up_trans HB3.out hup4); have HIL := Aside0.mk (HI3.out.up hup4); have HOL := Aside0.mk (own_up HO3.out hup4); clear hup4))
      go_ret
      exact ⟨rfl, up_trans HU1.out HBL.out⟩
end Go.Proofs.YthneeainigdmhaaGreat.M
