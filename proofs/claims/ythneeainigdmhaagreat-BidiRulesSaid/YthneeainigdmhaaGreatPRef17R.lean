/- endonymref17.Rules, walked. (printed by mkrr17.py) -/
import Derived.Test.YthneeainigdmhaaGreatPRef17P
set_option linter.unusedVariables false
set_option linter.unusedSimpArgs false
namespace Go.Proofs.YthneeainigdmhaaGreat.M
open Go.RowKit
set_option maxHeartbeats 16000000
set_option maxRecDepth 100000

theorem RRules_calls (At : Option Addr) (ct : Nat) (T : List Rec) (A : Option Addr) (c : Nat) (x : List Int) (w : World) (hT : Table w At T) (hR : ∀ x ∈ T, Right x) (hW : ∀ x ∈ T, x.Wf) (hl : T.length ≤ 4096) (hI : Ints .i32 w A x) (hx : x.length ≤ 100000) (hwf : ∀ z ∈ x, (Lit.int .i32 z).wf = true) (r : Int) (hr : rulesF (bdF T) x = r) :
    Calls Tryz.prog 56 #[.slice At T.length ct, .slice A x.length c] w fun e w' => e = .returned (.int .i64 r) ∧ Up w w' := by
  have HT := Aside0.mk hT
  have HRT := Aside0.mk hR
  have HW := Aside0.mk hW
  have HTL := Aside0.mk hl
  have HI := Aside0.mk hI
  have HX := Aside0.mk hx
  have HWF := Aside0.mk hwf
  have HR := Aside0.mk hr
  obtain ⟨ie, ze, hie, hze, hsi, hby, hzc⟩ := i64_info
  clear hT hR hW hl hI hwf hr
  by_cases hx0 : x = []
  · have hr0 : (0 : Int) = r := by rw [← HR.out, hx0]; rfl
    subst hr0
    have hxl : x.length = 0 := by rw [hx0]; rfl
    have g1 : ((x.length : Int) == 0) = true := beq_iff_eq.mpr (by omega)
    clear hx0
    go_enter Tryz.func56, Tryz.ntmps56
    go_wp2
    go_ret
    exact ⟨rfl, up_refl _⟩
  have hxp : 0 < x.length := List.length_pos_iff.2 hx0
  have g1 : ((x.length : Int) == 0) = false := beq_eq_false_iff_ne.mpr (by omega)
  have g2 : ¬ (x.length = 0) := by omega
  have HXP := Aside0.mk hxp
  have HR1 : Aside0 (∀ z, lastD id (x.map (bdF T)) 10 = z → rulesK (x.map (bdF T)) z = r) := ⟨fun z hz => (rulesK_said (bdF T) x hx0 z hz).symm.trans HR.out⟩
  obtain ⟨kk, hkk⟩ : ∃ kk, x.map (bdF T) = kk := ⟨_, rfl⟩
  have HKK := Aside0.mk hkk
  rw [hkk] at HR1
  have HKL : Aside0 (kk.length = x.length) := ⟨by rw [← hkk, List.length_map]⟩
  clear hx0 hkk hxp
  obtain ⟨k0, hk0⟩ : ∃ k0, rd kk ((0 : Nat) : Int) = k0 := ⟨_, rfl⟩
  have HK0 := Aside0.mk hk0
  clear hk0
  cases h0 : (k0 == 0) <;> cases h1 : (k0 == 1) <;> cases h2 : (k0 == 2)
  case true.true.true => exfalso; have := eq_of_beq h0; subst this; cases h1
  case true.true.false => exfalso; have := eq_of_beq h0; subst this; cases h1
  case true.false.true => exfalso; have := eq_of_beq h0; subst this; cases h2
  case false.true.true => exfalso; have := eq_of_beq h1; subst this; cases h2
  case false.false.false =>
    have HF : Aside0 ((k0 == 0 || k0 == 1 || k0 == 2) = false) := ⟨by rw [h0, h1, h2]; rfl⟩
    have hr1 : (1 : Int) = r := by
      rw [← HR1.out _ rfl]
      unfold rulesK
      rw [show rd kk 0 = k0 from HK0.out, if_neg (ne_of_beq_false h0), if_neg (fun h => h.elim (ne_of_beq_false h1) (ne_of_beq_false h2))]
    subst hr1

    go_enter Tryz.func56, Tryz.ntmps56
    go_wp2
    go_loopg [5, 6] x.length (fun k v5 v6 w' => ∃ (i : Nat) (q : List Int) (A5 : Option Addr) (c5 : Nat), v5 = .slice A5 q.length c5 ∧ v6 = .int .i64 i ∧ Aside0 (i + k = x.length ∧ q = (x.take i).map (bdF T)) ∧ Aside0 (w'.ownsRow w.heap.size 3 1 (.slice A5 q.length c5) q.length (q.map (Value.int .i64))) ∧ Aside0 (Up w w'))
    case atStart => exact ⟨0, [], none, 0, rfl, rfl, ⟨Nat.zero_add _, rfl⟩, ⟨World.ownsRow_nil _ _ _ _⟩, ⟨up_refl _⟩⟩
    case round =>
      obtain ⟨i, q, A5, c5, rfl, rfl, HN, HO, HB⟩ := hrel
      cases gk with
      | succ k =>
        have hlt : decide ((i : Int) < (x.length : Int)) = true := decide_eq_true (by have := HN.out; omega)
        have hlt1 : i < x.length := by have := HN.out; omega
        have h7 : 0 ≤ (i : Int) := by omega
        have h9 : (i : Int) < (x.length : Int) := by omega
        obtain ⟨ad, hA, hc⟩ := HI.out.at_ i h7 h9
        rw [Int.toNat_natCast] at hc
        replace hc := up_cell HB.out hc
        subst hA
        have HAR : Aside0 (-2147483648 ≤ rd x i ∧ rd x i ≤ 2147483647) := ⟨rd_wf HWF.out i⟩
        have HQL : Aside0 (q.length = i) := ⟨by rw [HN.out.2, List.length_map, List.length_take]; omega⟩
        have HQS : Aside0 (q ++ [bdF T (rd x i)] = (x.take (i + 1)).map (bdF T)) := ⟨by rw [List.take_add_one, List.getElem?_eq_getElem hlt1, Option.toList_some, List.map_append, ← HN.out.2, rd_elem x i hlt1]; rfl⟩
        have HLEN : Aside0 (q.length + 1 ≤ maxLen ∧ (q.length + 1) * 8 ≤ 140737488355328) := ⟨by have := HQL.out; unfold maxLen; omega⟩
        obtain ⟨a, ha⟩ : ∃ a, rd x i = a := ⟨_, rfl⟩
        rw [ha] at hc HAR HQS
        obtain ⟨y, hy⟩ : ∃ y, bdF T a = y := ⟨_, rfl⟩
        have HY := Aside0.mk hy
        rw [hy] at HQS
        clear hy ha
        go_wp2_with (first | (go_at_call 35; (with_reducible refine (TBidi_calls At ct T a _ (HT.out.up HB.out) HRT.out HW.out HTL.out HAR.out.1 HAR.out.2 y HY.out).mono ?_); rintro e w1 ⟨rfl, hup1⟩; have HB1 := Aside0.mk (up_trans HB.out hup1); have HO1 := Aside0.mk (own_up HO.out hup1); clear hup1) | (at_builtin; refine (wpList_append_row _ rfl _ _ 124 rfl w.heap.size 3 ie ze 1 8 Tryz.underlying124 hie hze hsi hby hzc (by decide) (.slice A5 q.length c5) q.length (q.map (Value.int .i64)) rfl (HO1.out.alloc _) (some ⟨w1.heap.size, 0, none⟩) 1 1 [.int .i64 y] rfl rfl (cells_one _ _ _) (ints_one .i64 [y]) ?ha6 ?hb6 ?hc6 ?_); (case ha6 => exact HLEN.out.1); (case hb6 => exact HLEN.out.2); (case hc6 => exact Nat.le_trans HB1.out.size (up_alloc (up_refl _) _).size); intro v6 w6 hown6 hgrow6 hat6; have HO6 : Aside0 (w6.ownsRow w.heap.size 3 1 v6 (q ++ [y]).length ((q ++ [y]).map (Value.int .i64))) := ⟨by rw [List.length_append, List.map_append]; exact hown6⟩; obtain ⟨A6, c6, hv6⟩ := own_any HO6.out; subst hv6; have HB6 := Aside0.mk ((up_alloc HB1.out (.cells #[.int .i64 y] 3)).grown hgrow6 (up_alloc HB1.out (.cells #[.int .i64 y] 3)).size (fun k hk => (HO1.out.lt k hk).1)); clear hown6 hgrow6 hat6))
        go_roundg k
        case measure => have := HN.out; omega
        case rel => exact ⟨i + 1, q ++ [y], A6, c6, by simp, rfl, ⟨by have := HN.out; omega, HQS.out⟩, HO6, HB6⟩
      | zero =>
        have hlt : decide ((i : Int) < (x.length : Int)) = false := decide_eq_false (by have := HN.out; omega)
        have hlt1 : ¬ (i < x.length) := by have := HN.out; omega
        have hqk : q = kk := by rw [HN.out.2, List.take_of_length_le (by omega)]; exact HKK.out
        subst hqk
        obtain ⟨wa, hwa⟩ : ∃ wa, wa = wr := ⟨_, rfl⟩
        subst hwa
        have hq5 : q.length = x.length := HKL.out
        have HQ5 := Aside0.mk hq5
        have HI5 : Aside0 (Ints .i64 wa A5 q) := ⟨own_int64 HO.out⟩
        have p0 : (0 : Int) < (q.length : Int) := by have := HKL.out; have := HXP.out; omega
        obtain ⟨ad5, hA5, hc5⟩ := HI5.out.at_ ((0 : Nat) : Int) (Int.le_refl _) p0
        subst hA5
        rw [HK0.out] at hc5
        rw [show ad5.add ((0 : Nat) : Int).toNat = ad5 from addr_add0 ad5] at hc5
        have HC5 := Aside0.mk hc5

        go_wp2_with (first | (go_at_call 105; (with_reducible refine (among_012 k0 _ _ HF.out).mono ?_); rintro e w8 ⟨rfl, hup8⟩; have HB8 := Aside0.mk (up_trans (up_alloc HB.out _) hup8); clear hup8))
        go_ret
        exact ⟨rfl, HB8.out⟩

  case true.false.false =>

    have HF : Aside0 ((k0 == 0 || k0 == 1 || k0 == 2) = true) := ⟨by rw [h0, h1, h2]; rfl⟩
    have HNT : Aside0 (rd kk 0 ≠ 10) := ⟨by
      rw [show rd kk 0 = k0 from HK0.out]
      rintro rfl
      cases h0⟩
    obtain ⟨m0, hm0, hm1, hm2⟩ := last_ex kk HNT.out (kk.length - 1) (by have := HKL.out; have := HXP.out; omega) (fun j h3 h4 => by omega)
    have HM0 := Aside0.mk hm0
    have HM1 := Aside0.mk hm1
    have HM2 := Aside0.mk hm2
    have HRK : Aside0 (rulesK kk (rd kk m0) = r) := ⟨HR1.out _ (lastD_at kk m0 hm0 10 hm1 hm2)⟩
    clear hm0 hm1 hm2

    go_enter Tryz.func56, Tryz.ntmps56
    go_wp2
    go_loopg [5, 6] x.length (fun k v5 v6 w' => ∃ (i : Nat) (q : List Int) (A5 : Option Addr) (c5 : Nat), v5 = .slice A5 q.length c5 ∧ v6 = .int .i64 i ∧ Aside0 (i + k = x.length ∧ q = (x.take i).map (bdF T)) ∧ Aside0 (w'.ownsRow w.heap.size 3 1 (.slice A5 q.length c5) q.length (q.map (Value.int .i64))) ∧ Aside0 (Up w w'))
    case atStart => exact ⟨0, [], none, 0, rfl, rfl, ⟨Nat.zero_add _, rfl⟩, ⟨World.ownsRow_nil _ _ _ _⟩, ⟨up_refl _⟩⟩
    case round =>
      obtain ⟨i, q, A5, c5, rfl, rfl, HN, HO, HB⟩ := hrel
      cases gk with
      | succ k =>
        have hlt : decide ((i : Int) < (x.length : Int)) = true := decide_eq_true (by have := HN.out; omega)
        have hlt1 : i < x.length := by have := HN.out; omega
        have h7 : 0 ≤ (i : Int) := by omega
        have h9 : (i : Int) < (x.length : Int) := by omega
        obtain ⟨ad, hA, hc⟩ := HI.out.at_ i h7 h9
        rw [Int.toNat_natCast] at hc
        replace hc := up_cell HB.out hc
        subst hA
        have HAR : Aside0 (-2147483648 ≤ rd x i ∧ rd x i ≤ 2147483647) := ⟨rd_wf HWF.out i⟩
        have HQL : Aside0 (q.length = i) := ⟨by rw [HN.out.2, List.length_map, List.length_take]; omega⟩
        have HQS : Aside0 (q ++ [bdF T (rd x i)] = (x.take (i + 1)).map (bdF T)) := ⟨by rw [List.take_add_one, List.getElem?_eq_getElem hlt1, Option.toList_some, List.map_append, ← HN.out.2, rd_elem x i hlt1]; rfl⟩
        have HLEN : Aside0 (q.length + 1 ≤ maxLen ∧ (q.length + 1) * 8 ≤ 140737488355328) := ⟨by have := HQL.out; unfold maxLen; omega⟩
        obtain ⟨a, ha⟩ : ∃ a, rd x i = a := ⟨_, rfl⟩
        rw [ha] at hc HAR HQS
        obtain ⟨y, hy⟩ : ∃ y, bdF T a = y := ⟨_, rfl⟩
        have HY := Aside0.mk hy
        rw [hy] at HQS
        clear hy ha
        go_wp2_with (first | (go_at_call 35; (with_reducible refine (TBidi_calls At ct T a _ (HT.out.up HB.out) HRT.out HW.out HTL.out HAR.out.1 HAR.out.2 y HY.out).mono ?_); rintro e w1 ⟨rfl, hup1⟩; have HB1 := Aside0.mk (up_trans HB.out hup1); have HO1 := Aside0.mk (own_up HO.out hup1); clear hup1) | (at_builtin; refine (wpList_append_row _ rfl _ _ 124 rfl w.heap.size 3 ie ze 1 8 Tryz.underlying124 hie hze hsi hby hzc (by decide) (.slice A5 q.length c5) q.length (q.map (Value.int .i64)) rfl (HO1.out.alloc _) (some ⟨w1.heap.size, 0, none⟩) 1 1 [.int .i64 y] rfl rfl (cells_one _ _ _) (ints_one .i64 [y]) ?ha6 ?hb6 ?hc6 ?_); (case ha6 => exact HLEN.out.1); (case hb6 => exact HLEN.out.2); (case hc6 => exact Nat.le_trans HB1.out.size (up_alloc (up_refl _) _).size); intro v6 w6 hown6 hgrow6 hat6; have HO6 : Aside0 (w6.ownsRow w.heap.size 3 1 v6 (q ++ [y]).length ((q ++ [y]).map (Value.int .i64))) := ⟨by rw [List.length_append, List.map_append]; exact hown6⟩; obtain ⟨A6, c6, hv6⟩ := own_any HO6.out; subst hv6; have HB6 := Aside0.mk ((up_alloc HB1.out (.cells #[.int .i64 y] 3)).grown hgrow6 (up_alloc HB1.out (.cells #[.int .i64 y] 3)).size (fun k hk => (HO1.out.lt k hk).1)); clear hown6 hgrow6 hat6))
        go_roundg k
        case measure => have := HN.out; omega
        case rel => exact ⟨i + 1, q ++ [y], A6, c6, by simp, rfl, ⟨by have := HN.out; omega, HQS.out⟩, HO6, HB6⟩
      | zero =>
        have hlt : decide ((i : Int) < (x.length : Int)) = false := decide_eq_false (by have := HN.out; omega)
        have hlt1 : ¬ (i < x.length) := by have := HN.out; omega
        have hqk : q = kk := by rw [HN.out.2, List.take_of_length_le (by omega)]; exact HKK.out
        subst hqk
        obtain ⟨wa, hwa⟩ : ∃ wa, wa = wr := ⟨_, rfl⟩
        subst hwa
        have hq5 : q.length = x.length := HKL.out
        have HQ5 := Aside0.mk hq5
        have HI5 : Aside0 (Ints .i64 wa A5 q) := ⟨own_int64 HO.out⟩
        have p0 : (0 : Int) < (q.length : Int) := by have := HKL.out; have := HXP.out; omega
        obtain ⟨ad5, hA5, hc5⟩ := HI5.out.at_ ((0 : Nat) : Int) (Int.le_refl _) p0
        subst hA5
        rw [HK0.out] at hc5
        rw [show ad5.add ((0 : Nat) : Int).toNat = ad5 from addr_add0 ad5] at hc5
        have HC5 := Aside0.mk hc5

        go_wp2_with (first | (go_at_call 105; (with_reducible refine (among_012 k0 _ _ HF.out).mono ?_); rintro e w8 ⟨rfl, hup8⟩; have HB8 := Aside0.mk (up_trans (up_alloc HB.out _) hup8); have HS8 := Aside0.mk (up_trans (up_alloc (up_refl wa) _) hup8); clear hup8))
        go_loopg [7] (q.length - 1 - m0) (fun k v7 w' => ∃ (i : Nat), v7 = .int .i64 i ∧ Aside0 (i = m0 + k ∧ i < q.length) ∧ Aside0 (Up wa w') ∧ Aside0 (Up w w'))
        case atStart => exact ⟨q.length - 1, by have := HM0.out; congr 1; omega, ⟨by have := HM0.out; omega⟩, ⟨HS8.out⟩, ⟨HB8.out⟩⟩
        case round =>
          obtain ⟨i2, rfl, HN2, HS2, HB2⟩ := hrel
          have h72 : 0 ≤ (i2 : Int) := by omega
          have h92 : (i2 : Int) < (q.length : Int) := by have := HN2.out; omega
          have p72 : decide (0 ≤ (i2 : Int)) = true := decide_eq_true h72
          obtain ⟨ad2, hA2, hc2⟩ := HI5.out.at_ i2 h72 h92
          cases hA2
          rw [Int.toNat_natCast] at hc2
          have HC2 := Aside0.mk hc2
          replace hc2 := up_cell HS2.out hc2
          replace hc5 := up_cell HS2.out HC5.out
          cases gk with
          | succ k =>
            rw [HM1.out i2 (by have := HN2.out; omega) (by omega)] at hc2
            have p73 : 0 < i2 := by have := HN2.out; omega
            go_wp2
            go_roundg k
            case measure => have := HN2.out; omega
            case rel => exact ⟨i2 - 1, by congr 1; omega, ⟨by have := HN2.out; omega⟩, ⟨HS2.out⟩, ⟨HB2.out⟩⟩
          | zero =>
            have hi2 : i2 = m0 := by have := HN2.out; omega
            subst hi2
            obtain ⟨z, hz⟩ : ∃ z, rd q i2 = z := ⟨_, rfl⟩
            have HZ := Aside0.mk hz
            have hm2 := HM2.out
            rw [hz] at hc2 hm2 HRK HC2
            clear hz
            have p10 : (z == 10) = false := beq_eq_false_iff_ne.mpr hm2
            clear hm2

            have HK00 : Aside0 (k0 = 0) := ⟨eq_of_beq h0⟩
            go_wp2
            go_loopg [8, 9] q.length (fun k v8 v9 w' => ∃ (i : Nat), v8 = .int .i64 (ruleN (rtlK (q.take i)) 16) ∧ v9 = .int .i64 i ∧ Aside0 (i + k = q.length) ∧ Aside0 (Up wa w') ∧ Aside0 (Up w w'))
            case atStart => exact ⟨0, rfl, rfl, ⟨Nat.zero_add _⟩, ⟨HS2.out⟩, ⟨HB2.out⟩⟩
            case round =>
              obtain ⟨i3, rfl, rfl, HN3, HS3, HB3⟩ := hrel
              replace hc2 := up_cell HS3.out HC2.out
              replace hc5 := up_cell HS3.out HC5.out
              cases gk with
              | succ k =>
                have hlt3 : decide ((i3 : Int) < (q.length : Int)) = true := decide_eq_true (by have := HN3.out; omega)
                have hlt13 : i3 < q.length := by have := HN3.out; omega
                have hlt23 : i3 < x.length := by have := HN3.out; omega
                have h73 : 0 ≤ (i3 : Int) := by omega
                have h93 : (i3 : Int) < (q.length : Int) := by omega
                obtain ⟨ad3, hA3, hc3⟩ := HI5.out.at_ i3 h73 h93
                cases hA3
                rw [Int.toNat_natCast] at hc3
                replace hc3 := up_cell HS3.out hc3
                have HQ3 : Aside0 (rtlK (q.take (i3 + 1)) = (rtlK (q.take i3) || rtl (rd q i3))) := ⟨take_step rtl q i3 hlt13⟩
                obtain ⟨a3, ha3⟩ : ∃ a3, rd q i3 = a3 := ⟨_, rfl⟩
                rw [ha3] at hc3 HQ3
                obtain ⟨t3, ht3⟩ : ∃ t3, rtlK (q.take i3) = t3 := ⟨_, rfl⟩
                rw [ht3] at HQ3 ⊢
                obtain ⟨u3, hu3⟩ : ∃ u3, rtl a3 = u3 := ⟨_, rfl⟩
                have HU3 := Aside0.mk hu3
                rw [hu3] at HQ3
                clear ht3 ha3 hu3
                cases t3 <;> cases u3
                all_goals
                  simp only [ruleN]
                  go_wp2_with (first | (go_at_call 105; (with_reducible refine (among_123 a3 _ _ HU3.out).mono ?_); rintro e w9 ⟨rfl, hup9⟩; have HB9 := Aside0.mk (up_trans (up_alloc HB3.out _) hup9); have HS9 := Aside0.mk (up_trans (up_alloc HS3.out _) hup9); clear hup9))
                  go_roundg k
                  case measure => have := HN3.out; omega
                  case rel => exact ⟨i3 + 1, by rw [HQ3.out]; rfl, rfl, ⟨by have := HN3.out; omega⟩, HS9, HB9⟩
              | zero =>
                have hlt3 : decide ((i3 : Int) < (q.length : Int)) = false := decide_eq_false (by have := HN3.out; omega)
                have hlt13 : ¬ (i3 < q.length) := by have := HN3.out; omega
                have hlt23 : ¬ (i3 < x.length) := by have := HN3.out; omega
                have hr3 := HRK.out
                unfold rulesK at hr3
                rw [show rd q 0 = k0 from HK0.out, if_pos HK00.out] at hr3
                rw [List.take_of_length_le (by omega)]
                obtain ⟨t3, ht3⟩ : ∃ t3, rtlK q = t3 := ⟨_, rfl⟩
                rw [ht3] at hr3 ⊢
                have HR3 := Aside0.mk hr3
                clear hr3 ht3
                by_cases z0 : z = 0
                · subst z0
                  cases t3
                  · have hr5 : (0 : Int) = r := HR3.out
                    subst hr5
                    go_wp2
                    go_ret
                    exact ⟨rfl, HB3.out⟩
                  · have hr5 : (16 : Int) = r := HR3.out
                    subst hr5
                    go_wp2
                    go_ret
                    exact ⟨rfl, HB3.out⟩
                by_cases z4 : z = 4
                · subst z4
                  cases t3
                  · have hr5 : (0 : Int) = r := HR3.out
                    subst hr5
                    go_wp2
                    go_ret
                    exact ⟨rfl, HB3.out⟩
                  · have hr5 : (16 : Int) = r := HR3.out
                    subst hr5
                    go_wp2
                    go_ret
                    exact ⟨rfl, HB3.out⟩
                have hz0 : (z == 0) = false := beq_eq_false_iff_ne.mpr z0
                have hz4 : (z == 4) = false := beq_eq_false_iff_ne.mpr z4
                have hn0 : (z != 0) = true := bne_iff_ne.mpr z0
                have hn4 : (z != 4) = true := bne_iff_ne.mpr z4
                have hr4 := HR3.out
                rw [show endL z = false by unfold endL; rw [hz0, hz4]; rfl] at hr4
                have HR4 := Aside0.mk hr4
                clear hr4
                cases t3
                · have hr5 : (32 : Int) = r := HR4.out
                  subst hr5
                  rw [show ruleN false 16 = 0 from rfl]
                  go_wp2
                  go_ret
                  exact ⟨rfl, HB3.out⟩
                · have hr5 : (48 : Int) = r := HR4.out
                  subst hr5
                  rw [show ruleN true 16 = 16 from rfl]
                  go_wp2
                  go_ret
                  exact ⟨rfl, HB3.out⟩

  all_goals

    have HF : Aside0 ((k0 == 0 || k0 == 1 || k0 == 2) = true) := ⟨by rw [h0, h1, h2]; rfl⟩
    have HNT : Aside0 (rd kk 0 ≠ 10) := ⟨by
      rw [show rd kk 0 = k0 from HK0.out]
      rintro rfl
      first | (cases h1; done) | (cases h2; done)⟩
    obtain ⟨m0, hm0, hm1, hm2⟩ := last_ex kk HNT.out (kk.length - 1) (by have := HKL.out; have := HXP.out; omega) (fun j h3 h4 => by omega)
    have HM0 := Aside0.mk hm0
    have HM1 := Aside0.mk hm1
    have HM2 := Aside0.mk hm2
    have HRK : Aside0 (rulesK kk (rd kk m0) = r) := ⟨HR1.out _ (lastD_at kk m0 hm0 10 hm1 hm2)⟩
    clear hm0 hm1 hm2

    go_enter Tryz.func56, Tryz.ntmps56
    go_wp2
    go_loopg [5, 6] x.length (fun k v5 v6 w' => ∃ (i : Nat) (q : List Int) (A5 : Option Addr) (c5 : Nat), v5 = .slice A5 q.length c5 ∧ v6 = .int .i64 i ∧ Aside0 (i + k = x.length ∧ q = (x.take i).map (bdF T)) ∧ Aside0 (w'.ownsRow w.heap.size 3 1 (.slice A5 q.length c5) q.length (q.map (Value.int .i64))) ∧ Aside0 (Up w w'))
    case atStart => exact ⟨0, [], none, 0, rfl, rfl, ⟨Nat.zero_add _, rfl⟩, ⟨World.ownsRow_nil _ _ _ _⟩, ⟨up_refl _⟩⟩
    case round =>
      obtain ⟨i, q, A5, c5, rfl, rfl, HN, HO, HB⟩ := hrel
      cases gk with
      | succ k =>
        have hlt : decide ((i : Int) < (x.length : Int)) = true := decide_eq_true (by have := HN.out; omega)
        have hlt1 : i < x.length := by have := HN.out; omega
        have h7 : 0 ≤ (i : Int) := by omega
        have h9 : (i : Int) < (x.length : Int) := by omega
        obtain ⟨ad, hA, hc⟩ := HI.out.at_ i h7 h9
        rw [Int.toNat_natCast] at hc
        replace hc := up_cell HB.out hc
        subst hA
        have HAR : Aside0 (-2147483648 ≤ rd x i ∧ rd x i ≤ 2147483647) := ⟨rd_wf HWF.out i⟩
        have HQL : Aside0 (q.length = i) := ⟨by rw [HN.out.2, List.length_map, List.length_take]; omega⟩
        have HQS : Aside0 (q ++ [bdF T (rd x i)] = (x.take (i + 1)).map (bdF T)) := ⟨by rw [List.take_add_one, List.getElem?_eq_getElem hlt1, Option.toList_some, List.map_append, ← HN.out.2, rd_elem x i hlt1]; rfl⟩
        have HLEN : Aside0 (q.length + 1 ≤ maxLen ∧ (q.length + 1) * 8 ≤ 140737488355328) := ⟨by have := HQL.out; unfold maxLen; omega⟩
        obtain ⟨a, ha⟩ : ∃ a, rd x i = a := ⟨_, rfl⟩
        rw [ha] at hc HAR HQS
        obtain ⟨y, hy⟩ : ∃ y, bdF T a = y := ⟨_, rfl⟩
        have HY := Aside0.mk hy
        rw [hy] at HQS
        clear hy ha
        go_wp2_with (first | (go_at_call 35; (with_reducible refine (TBidi_calls At ct T a _ (HT.out.up HB.out) HRT.out HW.out HTL.out HAR.out.1 HAR.out.2 y HY.out).mono ?_); rintro e w1 ⟨rfl, hup1⟩; have HB1 := Aside0.mk (up_trans HB.out hup1); have HO1 := Aside0.mk (own_up HO.out hup1); clear hup1) | (at_builtin; refine (wpList_append_row _ rfl _ _ 124 rfl w.heap.size 3 ie ze 1 8 Tryz.underlying124 hie hze hsi hby hzc (by decide) (.slice A5 q.length c5) q.length (q.map (Value.int .i64)) rfl (HO1.out.alloc _) (some ⟨w1.heap.size, 0, none⟩) 1 1 [.int .i64 y] rfl rfl (cells_one _ _ _) (ints_one .i64 [y]) ?ha6 ?hb6 ?hc6 ?_); (case ha6 => exact HLEN.out.1); (case hb6 => exact HLEN.out.2); (case hc6 => exact Nat.le_trans HB1.out.size (up_alloc (up_refl _) _).size); intro v6 w6 hown6 hgrow6 hat6; have HO6 : Aside0 (w6.ownsRow w.heap.size 3 1 v6 (q ++ [y]).length ((q ++ [y]).map (Value.int .i64))) := ⟨by rw [List.length_append, List.map_append]; exact hown6⟩; obtain ⟨A6, c6, hv6⟩ := own_any HO6.out; subst hv6; have HB6 := Aside0.mk ((up_alloc HB1.out (.cells #[.int .i64 y] 3)).grown hgrow6 (up_alloc HB1.out (.cells #[.int .i64 y] 3)).size (fun k hk => (HO1.out.lt k hk).1)); clear hown6 hgrow6 hat6))
        go_roundg k
        case measure => have := HN.out; omega
        case rel => exact ⟨i + 1, q ++ [y], A6, c6, by simp, rfl, ⟨by have := HN.out; omega, HQS.out⟩, HO6, HB6⟩
      | zero =>
        have hlt : decide ((i : Int) < (x.length : Int)) = false := decide_eq_false (by have := HN.out; omega)
        have hlt1 : ¬ (i < x.length) := by have := HN.out; omega
        have hqk : q = kk := by rw [HN.out.2, List.take_of_length_le (by omega)]; exact HKK.out
        subst hqk
        obtain ⟨wa, hwa⟩ : ∃ wa, wa = wr := ⟨_, rfl⟩
        subst hwa
        have hq5 : q.length = x.length := HKL.out
        have HQ5 := Aside0.mk hq5
        have HI5 : Aside0 (Ints .i64 wa A5 q) := ⟨own_int64 HO.out⟩
        have p0 : (0 : Int) < (q.length : Int) := by have := HKL.out; have := HXP.out; omega
        obtain ⟨ad5, hA5, hc5⟩ := HI5.out.at_ ((0 : Nat) : Int) (Int.le_refl _) p0
        subst hA5
        rw [HK0.out] at hc5
        rw [show ad5.add ((0 : Nat) : Int).toNat = ad5 from addr_add0 ad5] at hc5
        have HC5 := Aside0.mk hc5

        go_wp2_with (first | (go_at_call 105; (with_reducible refine (among_012 k0 _ _ HF.out).mono ?_); rintro e w8 ⟨rfl, hup8⟩; have HB8 := Aside0.mk (up_trans (up_alloc HB.out _) hup8); have HS8 := Aside0.mk (up_trans (up_alloc (up_refl wa) _) hup8); clear hup8))
        go_loopg [7] (q.length - 1 - m0) (fun k v7 w' => ∃ (i : Nat), v7 = .int .i64 i ∧ Aside0 (i = m0 + k ∧ i < q.length) ∧ Aside0 (Up wa w') ∧ Aside0 (Up w w'))
        case atStart => exact ⟨q.length - 1, by have := HM0.out; congr 1; omega, ⟨by have := HM0.out; omega⟩, ⟨HS8.out⟩, ⟨HB8.out⟩⟩
        case round =>
          obtain ⟨i2, rfl, HN2, HS2, HB2⟩ := hrel
          have h72 : 0 ≤ (i2 : Int) := by omega
          have h92 : (i2 : Int) < (q.length : Int) := by have := HN2.out; omega
          have p72 : decide (0 ≤ (i2 : Int)) = true := decide_eq_true h72
          obtain ⟨ad2, hA2, hc2⟩ := HI5.out.at_ i2 h72 h92
          cases hA2
          rw [Int.toNat_natCast] at hc2
          have HC2 := Aside0.mk hc2
          replace hc2 := up_cell HS2.out hc2
          replace hc5 := up_cell HS2.out HC5.out
          cases gk with
          | succ k =>
            rw [HM1.out i2 (by have := HN2.out; omega) (by omega)] at hc2
            have p73 : 0 < i2 := by have := HN2.out; omega
            go_wp2
            go_roundg k
            case measure => have := HN2.out; omega
            case rel => exact ⟨i2 - 1, by congr 1; omega, ⟨by have := HN2.out; omega⟩, ⟨HS2.out⟩, ⟨HB2.out⟩⟩
          | zero =>
            have hi2 : i2 = m0 := by have := HN2.out; omega
            subst hi2
            obtain ⟨z, hz⟩ : ∃ z, rd q i2 = z := ⟨_, rfl⟩
            have HZ := Aside0.mk hz
            have hm2 := HM2.out
            rw [hz] at hc2 hm2 HRK HC2
            clear hz
            have p10 : (z == 10) = false := beq_eq_false_iff_ne.mpr hm2
            clear hm2

            have HK00 : Aside0 (¬ k0 = 0) := ⟨ne_of_beq_false h0⟩
            have HK12 : Aside0 (k0 = 1 ∨ k0 = 2) := ⟨by first | exact .inl (eq_of_beq h1) | exact .inr (eq_of_beq h2)⟩
            go_wp2
            go_loopg [8, 10] q.length (fun k v8 v10 w' => ∃ (i : Nat), v8 = .int .i64 (ruleN (zeroK (q.take i)) 2) ∧ v10 = .int .i64 i ∧ Aside0 (i + k = q.length) ∧ Aside0 (Up wa w') ∧ Aside0 (Up w w'))
            case atStart => exact ⟨0, rfl, rfl, ⟨Nat.zero_add _⟩, ⟨HS2.out⟩, ⟨HB2.out⟩⟩
            case round =>
              obtain ⟨i3, rfl, rfl, HN3, HS3, HB3⟩ := hrel
              replace hc2 := up_cell HS3.out HC2.out
              replace hc5 := up_cell HS3.out HC5.out
              cases gk with
              | succ k =>
                have hlt3 : decide ((i3 : Int) < (q.length : Int)) = true := decide_eq_true (by have := HN3.out; omega)
                have hlt13 : i3 < q.length := by have := HN3.out; omega
                have hlt23 : i3 < x.length := by have := HN3.out; omega
                have h73 : 0 ≤ (i3 : Int) := by omega
                have h93 : (i3 : Int) < (q.length : Int) := by omega
                obtain ⟨ad3, hA3, hc3⟩ := HI5.out.at_ i3 h73 h93
                cases hA3
                rw [Int.toNat_natCast] at hc3
                replace hc3 := up_cell HS3.out hc3
                have HQ3 : Aside0 (zeroK (q.take (i3 + 1)) = (zeroK (q.take i3) || (rd q i3 == 0))) := ⟨take_step (fun a => a == 0) q i3 hlt13⟩
                obtain ⟨a3, ha3⟩ : ∃ a3, rd q i3 = a3 := ⟨_, rfl⟩
                rw [ha3] at hc3 HQ3
                obtain ⟨t3, ht3⟩ : ∃ t3, zeroK (q.take i3) = t3 := ⟨_, rfl⟩
                rw [ht3] at HQ3 ⊢
                cases u3 : (a3 == 0)
                all_goals
                  rw [u3] at HQ3
                  clear ht3 ha3
                  cases t3
                  all_goals
                    simp only [ruleN]
                    go_wp2
                    go_roundg k
                    case measure => have := HN3.out; omega
                    case rel => exact ⟨i3 + 1, by rw [HQ3.out]; rfl, rfl, ⟨by have := HN3.out; omega⟩, HS3, HB3⟩
              | zero =>
                have hlt3 : decide ((i3 : Int) < (q.length : Int)) = false := decide_eq_false (by have := HN3.out; omega)
                have hlt13 : ¬ (i3 < q.length) := by have := HN3.out; omega
                have hlt23 : ¬ (i3 < x.length) := by have := HN3.out; omega
                have HQN : Aside0 (q.length < 4611686018427387904) := ⟨by omega⟩
                have hr3 := HRK.out
                unfold rulesK at hr3
                rw [show rd q 0 = k0 from HK0.out, if_neg HK00.out, if_pos HK12.out] at hr3
                rw [List.take_of_length_le (by omega)]
                obtain ⟨t3, ht3⟩ : ∃ t3, zeroK q = t3 := ⟨_, rfl⟩
                obtain ⟨z1, hz1⟩ : ∃ z1, endR z = z1 := ⟨_, rfl⟩
                obtain ⟨b4, hb4⟩ : ∃ b4, amongB 4 q = b4 := ⟨_, rfl⟩
                obtain ⟨b3, hb3⟩ : ∃ b3, amongB 3 q = b3 := ⟨_, rfl⟩
                rw [ht3, hz1, hb4, hb3] at hr3
                rw [ht3]
                have HZ1 := Aside0.mk hz1
                have HM4 := Aside0.mk hb4
                have HM3 := Aside0.mk hb3
                clear ht3 hz1 hb4 hb3
                have HR3 := Aside0.mk hr3
                clear hr3
                cases z1 <;> cases t3 <;> cases b4 <;> cases b3
                · have hr5 : (4 : Int) = r := HR3.out
                  subst hr5
                  rw [show ruleN false 2 = 0 from rfl]
                  go_wp2_with (first | (go_at_call 105; (with_reducible refine (among_len 3 _ _ q x.length _ HQ5.out (HI5.out.up HS10.out) HQN.out _ HM3.out).mono ?_); rintro e w11 ⟨rfl, hup11⟩; have HBL := Aside0.mk (up_trans HB10.out hup11); clear hup11) | (go_at_call 105; (with_reducible refine (among_len 4 _ _ q x.length _ HQ5.out (HI5.out.up HS9.out) HQN.out _ HM4.out).mono ?_); rintro e w10 ⟨rfl, hup10⟩; have HS10 := Aside0.mk (up_trans HS9.out hup10); have HB10 := Aside0.mk (up_trans HB9.out hup10); have HBL := HB10; clear hup10) | (go_at_call 105; (with_reducible refine (among_1243 z _ _ HZ1.out).mono ?_); rintro e w9 ⟨rfl, hup9⟩; have HB9 := Aside0.mk (up_trans (up_alloc HB3.out _) hup9); have HS9 := Aside0.mk (up_trans (up_alloc HS3.out _) hup9); clear hup9))
                  go_ret
                  exact ⟨rfl, HBL.out⟩
                · have hr5 : (4 : Int) = r := HR3.out
                  subst hr5
                  rw [show ruleN false 2 = 0 from rfl]
                  go_wp2_with (first | (go_at_call 105; (with_reducible refine (among_len 3 _ _ q x.length _ HQ5.out (HI5.out.up HS10.out) HQN.out _ HM3.out).mono ?_); rintro e w11 ⟨rfl, hup11⟩; have HBL := Aside0.mk (up_trans HB10.out hup11); clear hup11) | (go_at_call 105; (with_reducible refine (among_len 4 _ _ q x.length _ HQ5.out (HI5.out.up HS9.out) HQN.out _ HM4.out).mono ?_); rintro e w10 ⟨rfl, hup10⟩; have HS10 := Aside0.mk (up_trans HS9.out hup10); have HB10 := Aside0.mk (up_trans HB9.out hup10); have HBL := HB10; clear hup10) | (go_at_call 105; (with_reducible refine (among_1243 z _ _ HZ1.out).mono ?_); rintro e w9 ⟨rfl, hup9⟩; have HB9 := Aside0.mk (up_trans (up_alloc HB3.out _) hup9); have HS9 := Aside0.mk (up_trans (up_alloc HS3.out _) hup9); clear hup9))
                  go_ret
                  exact ⟨rfl, HBL.out⟩
                · have hr5 : (4 : Int) = r := HR3.out
                  subst hr5
                  rw [show ruleN false 2 = 0 from rfl]
                  go_wp2_with (first | (go_at_call 105; (with_reducible refine (among_len 3 _ _ q x.length _ HQ5.out (HI5.out.up HS10.out) HQN.out _ HM3.out).mono ?_); rintro e w11 ⟨rfl, hup11⟩; have HBL := Aside0.mk (up_trans HB10.out hup11); clear hup11) | (go_at_call 105; (with_reducible refine (among_len 4 _ _ q x.length _ HQ5.out (HI5.out.up HS9.out) HQN.out _ HM4.out).mono ?_); rintro e w10 ⟨rfl, hup10⟩; have HS10 := Aside0.mk (up_trans HS9.out hup10); have HB10 := Aside0.mk (up_trans HB9.out hup10); have HBL := HB10; clear hup10) | (go_at_call 105; (with_reducible refine (among_1243 z _ _ HZ1.out).mono ?_); rintro e w9 ⟨rfl, hup9⟩; have HB9 := Aside0.mk (up_trans (up_alloc HB3.out _) hup9); have HS9 := Aside0.mk (up_trans (up_alloc HS3.out _) hup9); clear hup9))
                  go_ret
                  exact ⟨rfl, HBL.out⟩
                · have hr5 : (12 : Int) = r := HR3.out
                  subst hr5
                  rw [show ruleN false 2 = 0 from rfl]
                  go_wp2_with (first | (go_at_call 105; (with_reducible refine (among_len 3 _ _ q x.length _ HQ5.out (HI5.out.up HS10.out) HQN.out _ HM3.out).mono ?_); rintro e w11 ⟨rfl, hup11⟩; have HBL := Aside0.mk (up_trans HB10.out hup11); clear hup11) | (go_at_call 105; (with_reducible refine (among_len 4 _ _ q x.length _ HQ5.out (HI5.out.up HS9.out) HQN.out _ HM4.out).mono ?_); rintro e w10 ⟨rfl, hup10⟩; have HS10 := Aside0.mk (up_trans HS9.out hup10); have HB10 := Aside0.mk (up_trans HB9.out hup10); have HBL := HB10; clear hup10) | (go_at_call 105; (with_reducible refine (among_1243 z _ _ HZ1.out).mono ?_); rintro e w9 ⟨rfl, hup9⟩; have HB9 := Aside0.mk (up_trans (up_alloc HB3.out _) hup9); have HS9 := Aside0.mk (up_trans (up_alloc HS3.out _) hup9); clear hup9))
                  go_ret
                  exact ⟨rfl, HBL.out⟩
                · have hr5 : (6 : Int) = r := HR3.out
                  subst hr5
                  rw [show ruleN true 2 = 2 from rfl]
                  go_wp2_with (first | (go_at_call 105; (with_reducible refine (among_len 3 _ _ q x.length _ HQ5.out (HI5.out.up HS10.out) HQN.out _ HM3.out).mono ?_); rintro e w11 ⟨rfl, hup11⟩; have HBL := Aside0.mk (up_trans HB10.out hup11); clear hup11) | (go_at_call 105; (with_reducible refine (among_len 4 _ _ q x.length _ HQ5.out (HI5.out.up HS9.out) HQN.out _ HM4.out).mono ?_); rintro e w10 ⟨rfl, hup10⟩; have HS10 := Aside0.mk (up_trans HS9.out hup10); have HB10 := Aside0.mk (up_trans HB9.out hup10); have HBL := HB10; clear hup10) | (go_at_call 105; (with_reducible refine (among_1243 z _ _ HZ1.out).mono ?_); rintro e w9 ⟨rfl, hup9⟩; have HB9 := Aside0.mk (up_trans (up_alloc HB3.out _) hup9); have HS9 := Aside0.mk (up_trans (up_alloc HS3.out _) hup9); clear hup9))
                  go_ret
                  exact ⟨rfl, HBL.out⟩
                · have hr5 : (6 : Int) = r := HR3.out
                  subst hr5
                  rw [show ruleN true 2 = 2 from rfl]
                  go_wp2_with (first | (go_at_call 105; (with_reducible refine (among_len 3 _ _ q x.length _ HQ5.out (HI5.out.up HS10.out) HQN.out _ HM3.out).mono ?_); rintro e w11 ⟨rfl, hup11⟩; have HBL := Aside0.mk (up_trans HB10.out hup11); clear hup11) | (go_at_call 105; (with_reducible refine (among_len 4 _ _ q x.length _ HQ5.out (HI5.out.up HS9.out) HQN.out _ HM4.out).mono ?_); rintro e w10 ⟨rfl, hup10⟩; have HS10 := Aside0.mk (up_trans HS9.out hup10); have HB10 := Aside0.mk (up_trans HB9.out hup10); have HBL := HB10; clear hup10) | (go_at_call 105; (with_reducible refine (among_1243 z _ _ HZ1.out).mono ?_); rintro e w9 ⟨rfl, hup9⟩; have HB9 := Aside0.mk (up_trans (up_alloc HB3.out _) hup9); have HS9 := Aside0.mk (up_trans (up_alloc HS3.out _) hup9); clear hup9))
                  go_ret
                  exact ⟨rfl, HBL.out⟩
                · have hr5 : (6 : Int) = r := HR3.out
                  subst hr5
                  rw [show ruleN true 2 = 2 from rfl]
                  go_wp2_with (first | (go_at_call 105; (with_reducible refine (among_len 3 _ _ q x.length _ HQ5.out (HI5.out.up HS10.out) HQN.out _ HM3.out).mono ?_); rintro e w11 ⟨rfl, hup11⟩; have HBL := Aside0.mk (up_trans HB10.out hup11); clear hup11) | (go_at_call 105; (with_reducible refine (among_len 4 _ _ q x.length _ HQ5.out (HI5.out.up HS9.out) HQN.out _ HM4.out).mono ?_); rintro e w10 ⟨rfl, hup10⟩; have HS10 := Aside0.mk (up_trans HS9.out hup10); have HB10 := Aside0.mk (up_trans HB9.out hup10); have HBL := HB10; clear hup10) | (go_at_call 105; (with_reducible refine (among_1243 z _ _ HZ1.out).mono ?_); rintro e w9 ⟨rfl, hup9⟩; have HB9 := Aside0.mk (up_trans (up_alloc HB3.out _) hup9); have HS9 := Aside0.mk (up_trans (up_alloc HS3.out _) hup9); clear hup9))
                  go_ret
                  exact ⟨rfl, HBL.out⟩
                · have hr5 : (14 : Int) = r := HR3.out
                  subst hr5
                  rw [show ruleN true 2 = 2 from rfl]
                  go_wp2_with (first | (go_at_call 105; (with_reducible refine (among_len 3 _ _ q x.length _ HQ5.out (HI5.out.up HS10.out) HQN.out _ HM3.out).mono ?_); rintro e w11 ⟨rfl, hup11⟩; have HBL := Aside0.mk (up_trans HB10.out hup11); clear hup11) | (go_at_call 105; (with_reducible refine (among_len 4 _ _ q x.length _ HQ5.out (HI5.out.up HS9.out) HQN.out _ HM4.out).mono ?_); rintro e w10 ⟨rfl, hup10⟩; have HS10 := Aside0.mk (up_trans HS9.out hup10); have HB10 := Aside0.mk (up_trans HB9.out hup10); have HBL := HB10; clear hup10) | (go_at_call 105; (with_reducible refine (among_1243 z _ _ HZ1.out).mono ?_); rintro e w9 ⟨rfl, hup9⟩; have HB9 := Aside0.mk (up_trans (up_alloc HB3.out _) hup9); have HS9 := Aside0.mk (up_trans (up_alloc HS3.out _) hup9); clear hup9))
                  go_ret
                  exact ⟨rfl, HBL.out⟩
                · have hr5 : (0 : Int) = r := HR3.out
                  subst hr5
                  rw [show ruleN false 2 = 0 from rfl]
                  go_wp2_with (first | (go_at_call 105; (with_reducible refine (among_len 3 _ _ q x.length _ HQ5.out (HI5.out.up HS10.out) HQN.out _ HM3.out).mono ?_); rintro e w11 ⟨rfl, hup11⟩; have HBL := Aside0.mk (up_trans HB10.out hup11); clear hup11) | (go_at_call 105; (with_reducible refine (among_len 4 _ _ q x.length _ HQ5.out (HI5.out.up HS9.out) HQN.out _ HM4.out).mono ?_); rintro e w10 ⟨rfl, hup10⟩; have HS10 := Aside0.mk (up_trans HS9.out hup10); have HB10 := Aside0.mk (up_trans HB9.out hup10); have HBL := HB10; clear hup10) | (go_at_call 105; (with_reducible refine (among_1243 z _ _ HZ1.out).mono ?_); rintro e w9 ⟨rfl, hup9⟩; have HB9 := Aside0.mk (up_trans (up_alloc HB3.out _) hup9); have HS9 := Aside0.mk (up_trans (up_alloc HS3.out _) hup9); clear hup9))
                  go_ret
                  exact ⟨rfl, HBL.out⟩
                · have hr5 : (0 : Int) = r := HR3.out
                  subst hr5
                  rw [show ruleN false 2 = 0 from rfl]
                  go_wp2_with (first | (go_at_call 105; (with_reducible refine (among_len 3 _ _ q x.length _ HQ5.out (HI5.out.up HS10.out) HQN.out _ HM3.out).mono ?_); rintro e w11 ⟨rfl, hup11⟩; have HBL := Aside0.mk (up_trans HB10.out hup11); clear hup11) | (go_at_call 105; (with_reducible refine (among_len 4 _ _ q x.length _ HQ5.out (HI5.out.up HS9.out) HQN.out _ HM4.out).mono ?_); rintro e w10 ⟨rfl, hup10⟩; have HS10 := Aside0.mk (up_trans HS9.out hup10); have HB10 := Aside0.mk (up_trans HB9.out hup10); have HBL := HB10; clear hup10) | (go_at_call 105; (with_reducible refine (among_1243 z _ _ HZ1.out).mono ?_); rintro e w9 ⟨rfl, hup9⟩; have HB9 := Aside0.mk (up_trans (up_alloc HB3.out _) hup9); have HS9 := Aside0.mk (up_trans (up_alloc HS3.out _) hup9); clear hup9))
                  go_ret
                  exact ⟨rfl, HBL.out⟩
                · have hr5 : (0 : Int) = r := HR3.out
                  subst hr5
                  rw [show ruleN false 2 = 0 from rfl]
                  go_wp2_with (first | (go_at_call 105; (with_reducible refine (among_len 3 _ _ q x.length _ HQ5.out (HI5.out.up HS10.out) HQN.out _ HM3.out).mono ?_); rintro e w11 ⟨rfl, hup11⟩; have HBL := Aside0.mk (up_trans HB10.out hup11); clear hup11) | (go_at_call 105; (with_reducible refine (among_len 4 _ _ q x.length _ HQ5.out (HI5.out.up HS9.out) HQN.out _ HM4.out).mono ?_); rintro e w10 ⟨rfl, hup10⟩; have HS10 := Aside0.mk (up_trans HS9.out hup10); have HB10 := Aside0.mk (up_trans HB9.out hup10); have HBL := HB10; clear hup10) | (go_at_call 105; (with_reducible refine (among_1243 z _ _ HZ1.out).mono ?_); rintro e w9 ⟨rfl, hup9⟩; have HB9 := Aside0.mk (up_trans (up_alloc HB3.out _) hup9); have HS9 := Aside0.mk (up_trans (up_alloc HS3.out _) hup9); clear hup9))
                  go_ret
                  exact ⟨rfl, HBL.out⟩
                · have hr5 : (8 : Int) = r := HR3.out
                  subst hr5
                  rw [show ruleN false 2 = 0 from rfl]
                  go_wp2_with (first | (go_at_call 105; (with_reducible refine (among_len 3 _ _ q x.length _ HQ5.out (HI5.out.up HS10.out) HQN.out _ HM3.out).mono ?_); rintro e w11 ⟨rfl, hup11⟩; have HBL := Aside0.mk (up_trans HB10.out hup11); clear hup11) | (go_at_call 105; (with_reducible refine (among_len 4 _ _ q x.length _ HQ5.out (HI5.out.up HS9.out) HQN.out _ HM4.out).mono ?_); rintro e w10 ⟨rfl, hup10⟩; have HS10 := Aside0.mk (up_trans HS9.out hup10); have HB10 := Aside0.mk (up_trans HB9.out hup10); have HBL := HB10; clear hup10) | (go_at_call 105; (with_reducible refine (among_1243 z _ _ HZ1.out).mono ?_); rintro e w9 ⟨rfl, hup9⟩; have HB9 := Aside0.mk (up_trans (up_alloc HB3.out _) hup9); have HS9 := Aside0.mk (up_trans (up_alloc HS3.out _) hup9); clear hup9))
                  go_ret
                  exact ⟨rfl, HBL.out⟩
                · have hr5 : (2 : Int) = r := HR3.out
                  subst hr5
                  rw [show ruleN true 2 = 2 from rfl]
                  go_wp2_with (first | (go_at_call 105; (with_reducible refine (among_len 3 _ _ q x.length _ HQ5.out (HI5.out.up HS10.out) HQN.out _ HM3.out).mono ?_); rintro e w11 ⟨rfl, hup11⟩; have HBL := Aside0.mk (up_trans HB10.out hup11); clear hup11) | (go_at_call 105; (with_reducible refine (among_len 4 _ _ q x.length _ HQ5.out (HI5.out.up HS9.out) HQN.out _ HM4.out).mono ?_); rintro e w10 ⟨rfl, hup10⟩; have HS10 := Aside0.mk (up_trans HS9.out hup10); have HB10 := Aside0.mk (up_trans HB9.out hup10); have HBL := HB10; clear hup10) | (go_at_call 105; (with_reducible refine (among_1243 z _ _ HZ1.out).mono ?_); rintro e w9 ⟨rfl, hup9⟩; have HB9 := Aside0.mk (up_trans (up_alloc HB3.out _) hup9); have HS9 := Aside0.mk (up_trans (up_alloc HS3.out _) hup9); clear hup9))
                  go_ret
                  exact ⟨rfl, HBL.out⟩
                · have hr5 : (2 : Int) = r := HR3.out
                  subst hr5
                  rw [show ruleN true 2 = 2 from rfl]
                  go_wp2_with (first | (go_at_call 105; (with_reducible refine (among_len 3 _ _ q x.length _ HQ5.out (HI5.out.up HS10.out) HQN.out _ HM3.out).mono ?_); rintro e w11 ⟨rfl, hup11⟩; have HBL := Aside0.mk (up_trans HB10.out hup11); clear hup11) | (go_at_call 105; (with_reducible refine (among_len 4 _ _ q x.length _ HQ5.out (HI5.out.up HS9.out) HQN.out _ HM4.out).mono ?_); rintro e w10 ⟨rfl, hup10⟩; have HS10 := Aside0.mk (up_trans HS9.out hup10); have HB10 := Aside0.mk (up_trans HB9.out hup10); have HBL := HB10; clear hup10) | (go_at_call 105; (with_reducible refine (among_1243 z _ _ HZ1.out).mono ?_); rintro e w9 ⟨rfl, hup9⟩; have HB9 := Aside0.mk (up_trans (up_alloc HB3.out _) hup9); have HS9 := Aside0.mk (up_trans (up_alloc HS3.out _) hup9); clear hup9))
                  go_ret
                  exact ⟨rfl, HBL.out⟩
                · have hr5 : (2 : Int) = r := HR3.out
                  subst hr5
                  rw [show ruleN true 2 = 2 from rfl]
                  go_wp2_with (first | (go_at_call 105; (with_reducible refine (among_len 3 _ _ q x.length _ HQ5.out (HI5.out.up HS10.out) HQN.out _ HM3.out).mono ?_); rintro e w11 ⟨rfl, hup11⟩; have HBL := Aside0.mk (up_trans HB10.out hup11); clear hup11) | (go_at_call 105; (with_reducible refine (among_len 4 _ _ q x.length _ HQ5.out (HI5.out.up HS9.out) HQN.out _ HM4.out).mono ?_); rintro e w10 ⟨rfl, hup10⟩; have HS10 := Aside0.mk (up_trans HS9.out hup10); have HB10 := Aside0.mk (up_trans HB9.out hup10); have HBL := HB10; clear hup10) | (go_at_call 105; (with_reducible refine (among_1243 z _ _ HZ1.out).mono ?_); rintro e w9 ⟨rfl, hup9⟩; have HB9 := Aside0.mk (up_trans (up_alloc HB3.out _) hup9); have HS9 := Aside0.mk (up_trans (up_alloc HS3.out _) hup9); clear hup9))
                  go_ret
                  exact ⟨rfl, HBL.out⟩
                · have hr5 : (10 : Int) = r := HR3.out
                  subst hr5
                  rw [show ruleN true 2 = 2 from rfl]
                  go_wp2_with (first | (go_at_call 105; (with_reducible refine (among_len 3 _ _ q x.length _ HQ5.out (HI5.out.up HS10.out) HQN.out _ HM3.out).mono ?_); rintro e w11 ⟨rfl, hup11⟩; have HBL := Aside0.mk (up_trans HB10.out hup11); clear hup11) | (go_at_call 105; (with_reducible refine (among_len 4 _ _ q x.length _ HQ5.out (HI5.out.up HS9.out) HQN.out _ HM4.out).mono ?_); rintro e w10 ⟨rfl, hup10⟩; have HS10 := Aside0.mk (up_trans HS9.out hup10); have HB10 := Aside0.mk (up_trans HB9.out hup10); have HBL := HB10; clear hup10) | (go_at_call 105; (with_reducible refine (among_1243 z _ _ HZ1.out).mono ?_); rintro e w9 ⟨rfl, hup9⟩; have HB9 := Aside0.mk (up_trans (up_alloc HB3.out _) hup9); have HS9 := Aside0.mk (up_trans (up_alloc HS3.out _) hup9); clear hup9))
                  go_ret
                  exact ⟨rfl, HBL.out⟩
end Go.Proofs.YthneeainigdmhaaGreat.M
