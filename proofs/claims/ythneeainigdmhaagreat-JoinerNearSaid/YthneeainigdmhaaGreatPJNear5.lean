/- JoinerNear, walked. -/
import Derived.Test.YthneeainigdmhaaGreatPJNear4
import Derived.Test.YthneeainigdmhaaGreatPJoin3
import Derived.Test.YthneeainigdmhaaGreatPTold16
import Derived.Test.YthneeainigdmhaaGreatK37
set_option linter.unusedVariables false
set_option linter.unusedSimpArgs false
namespace Go.Proofs.YthneeainigdmhaaGreat.M
open Go.RowKit
set_option maxHeartbeats 16000000
set_option maxRecDepth 100000
attribute [local go_sem] max_two_int min_two_int

theorem JoinerNear_no (A : Option Addr) (c : Nat) (T : List Rec) (A1 : Option Addr) (n1 c1 : Nat) (z : Int) (A3 : Option Addr) (n3 c3 : Nat) (A4 : Option Addr) (n4 c4 : Nat) (w : World) (hT : Table w A T) (hW : ∀ x ∈ T, x.Wf) (hc : T.length ≤ c) (he : (checkE (T.take 150)).2 ≠ 0) :
    Calls Tryz.prog 3 #[.slice A T.length c, .slice A1 n1 c1, .int .i64 z, .slice A3 n3 c3, .slice A4 n4 c4] w fun e w' => e = .returned (.bool true) ∧ Up w w' := by
  have HM := Aside0.mk (Made_no A c T w hT hW hc he)
  clear hT hW hc he
  go_enter Tryz.func3, Tryz.ntmps3
  go_wp2_with (first | (go_at_call 20; (with_reducible refine HM.out.mono ?_); rintro e w1 ⟨rfl, hup1⟩) | (go_at_call 21; (with_reducible refine (told16_calls _).mono ?_); rintro e w2 ⟨rfl, hup2⟩))
  go_ret
  exact ⟨rfl, up_trans hup1 hup2⟩
theorem JoinerNear_yes (A : Option Addr) (c : Nat) (T P : List Rec) (Ax : Option Addr) (x : List Int) (cx : Nat) (z : Int) (Ah : Option Addr) (ah : List Int) (ch : Nat) (Ab : Option Addr) (be : List Int) (cb : Nat) (w : World) (hP : T.take 150 = P) (hT : Table w A T) (hW : ∀ x ∈ T, x.Wf) (hc : T.length ≤ c) (he : (checkE P).2 = 0)
    (hI : Ints .i32 w Ax x) (hx : x.length < 4611686018427387904) (hxc : x.length ≤ cx) (hwf : ∀ z ∈ x, (Lit.int .i32 z).wf = true)
    (hI2 : Ints .i32 w Ah ah) (hx2 : ah.length < 4611686018427387904) (hxc2 : ah.length ≤ ch) (hwf2 : ∀ z ∈ ah, (Lit.int .i32 z).wf = true)
    (hI3 : Ints .i32 w Ab be) (hx3 : be.length < 4611686018427387904) (hxc3 : be.length ≤ cb) (hwf3 : ∀ z ∈ be, (Lit.int .i32 z).wf = true) :
    Calls Tryz.prog 3 #[.slice A T.length c, .slice Ax x.length cx, .int .i64 z, .slice Ah ah.length ch, .slice Ab be.length cb] w fun e w' => e = .returned (.bool true) ∧ Up w w' := by
  have HM := Aside0.mk (Made_yes A c T P w hP hT hW hc he)
  have hWP : ∀ x ∈ P, x.Wf := fun x hx => hW x (by rw [← hP] at hx; exact List.mem_of_mem_take hx)
  have HG := Aside0.mk (fine_of hWP he).toGood
  have HWP := Aside0.mk hWP
  have HI := Aside0.mk hI
  have HX := Aside0.mk hx
  have HXC := Aside0.mk hxc
  have HI2 := Aside0.mk hI2
  have HX2 := Aside0.mk hx2
  have HXC2 := Aside0.mk hxc2
  have HI3 := Aside0.mk hI3
  have HX3 := Aside0.mk hx3
  have HXC3 := Aside0.mk hxc3
  obtain ⟨y, hy⟩ : ∃ y, x.take 60 = y := ⟨_, rfl⟩
  obtain ⟨p, hp⟩ : ∃ p, ah.take 30 = p := ⟨_, rfl⟩
  obtain ⟨q, hq⟩ : ∃ q, be.take 30 = q := ⟨_, rfl⟩
  have HYW : Aside0 (∀ z ∈ y, (Lit.int .i32 z).wf = true) := ⟨fun z hz => hwf z (by rw [← hy] at hz; exact List.mem_of_mem_take hz)⟩
  have HPW : Aside0 (∀ z ∈ p, (Lit.int .i32 z).wf = true) := ⟨fun z hz => hwf2 z (by rw [← hp] at hz; exact List.mem_of_mem_take hz)⟩
  have HQW : Aside0 (∀ z ∈ q, (Lit.int .i32 z).wf = true) := ⟨fun z hz => hwf3 z (by rw [← hq] at hz; exact List.mem_of_mem_take hz)⟩
  have HYL : Aside0 (y.length ≤ 60) := ⟨by rw [← hy, List.length_take]; omega⟩
  have HPL : Aside0 (p.length ≤ 30) := ⟨by rw [← hp, List.length_take]; omega⟩
  have HQL : Aside0 (q.length ≤ 30) := ⟨by rw [← hq, List.length_take]; omega⟩
  have HPT : Aside0 (P.length ≤ 4096) := ⟨by rw [← hP, List.length_take]; omega⟩
  have HY := Aside0.mk hy
  have HP := Aside0.mk hp
  have HQ := Aside0.mk hq
  clear hT hW hc he hI hWP hP hx hwf hI2 hx2 hwf2 hI3 hx3 hwf3 hy hp hq hxc hxc2 hxc3
  by_cases hy0 : y = []
  · have HCK : Aside0 (checkJ (jnF P) (clF P) y = -1) := ⟨by rw [hy0]; rfl⟩
    have hyl : y.length = 0 := by rw [hy0]; rfl
    have g0 : decide (y.length = 0) = true := decide_eq_true hyl
    have g1 : ((y.length : Int) == 0) = true := beq_iff_eq.mpr (by omega)
    clear hy0 hyl
    go_enter Tryz.func3, Tryz.ntmps3
    go_wp2_with (first | (go_at_call 20; (with_reducible refine HM.out.mono ?_); rintro e w1 ⟨bd, D, A3, c3, rfl, hD, hTab, hup1⟩; have HD := Aside0.mk hD; have HU1 := Aside0.mk hup1; clear hD hTab hup1) | (go_at_call 22; (with_reducible refine (few16_at Ax cx x y 60 60 rfl _ (HI.out.up HU1.out) HX.out HXC.out (by decide) HY.out).mono ?_); rintro e w2 ⟨v2, rfl, hown2, hup2⟩; obtain ⟨A4, c4, rfl, hi4, _⟩ := own_ints hown2; have HU2 := Aside0.mk (up_trans HU1.out hup2); have HD2 := Aside0.mk (HD.out.up hup2); have HI4 := Aside0.mk hi4; clear hown2 hup2 hi4) | (go_at_call 23; (with_reducible refine (JCheck_calls HD2.out HG.out A4 c4 y HI4.out (Nat.lt_of_le_of_lt HYL.out (by decide)) HYW.out (-1) HCK.out).mono ?_); rintro e w3 ⟨rfl, hup3⟩))
    go_ret
    exact ⟨rfl, up_trans HU2.out hup3⟩
  · have hy1 : 0 < y.length := List.length_pos_iff.2 hy0
    obtain ⟨i, hi⟩ : ∃ i : Nat, (bits .and .i64 z 1099511627775).tmod (y.length : Int) = (i : Int) := by
      refine Int.eq_ofNat_of_zero_le ?_
      rw [i64_and40]
      exact Int.tmod_nonneg _ (by omega)
    have hi2 : i < y.length := by
      have : (i : Int) < (y.length : Int) := by
        rw [← hi, i64_and40]
        exact Int.tmod_lt_of_pos _ (by omega)
      omega
    have g0 : decide (y.length = 0) = false := decide_eq_false (by omega)
    have g1 : ((y.length : Int) == 0) = false := beq_eq_false_iff_ne.mpr (by omega)
    have g2 : ¬ ((y.length : Int) = 0) := by omega
    have HI1 := Aside0.mk hi2
    clear hy0
    go_enter Tryz.func3, Tryz.ntmps3
    go_upto_block 0 with (first | (go_at_call 20; (with_reducible refine HM.out.mono ?_); rintro e w1 ⟨bd, D, A3, c3, rfl, hD, hTab, hup1⟩; have HD := Aside0.mk hD; have HT := Aside0.mk hTab; have HU1 := Aside0.mk hup1; clear hD hTab hup1) | (go_at_call 22; (with_reducible refine (few16_at Ax cx x y 60 60 rfl _ (HI.out.up HU1.out) HX.out HXC.out (by decide) HY.out).mono ?_); rintro e w2 ⟨v2, rfl, hown2, hup2⟩; obtain ⟨A4, c4, rfl, hi4, _⟩ := own_ints hown2; have HU2 := Aside0.mk (up_trans HU1.out hup2); have HD2 := Aside0.mk (HD.out.up hup2); have HT2 := Aside0.mk (HT.out.table.up hup2); have HI4 := Aside0.mk hi4; have HOW := Aside0.mk hown2; clear hown2 hup2 hi4))
    have HJ : Aside0 (∀ (W : World) (a r : Int), Up w2 W → -2147483648 ≤ a → a ≤ 2147483647 → jnF P a = r → Calls Tryz.prog 24 #[.slice A3 P.length c3, .int .i32 a] W fun e w' => e = .returned (.int .i64 r) ∧ Up W w') := ⟨fun W a r hu h1 h2 h3 => TJoin_calls A3 c3 P a W (HT2.out.up hu) HG.out.right HWP.out HPT.out h1 h2 r h3⟩
    obtain ⟨lo, hlo⟩ : ∃ lo : Int, (if i = 0 then -1 else (downT (jnF P) y (i - 1) : Int)) = lo := ⟨_, rfl⟩
    obtain ⟨e, he⟩ : ∃ e : Nat, upT (jnF P) y (y.length - (i + 1)) (i + 1) = e := ⟨_, rfl⟩
    have HLO := Aside0.mk hlo
    have HE := Aside0.mk he
    have hyl : y.length ≤ 60 := HYL.out
    clear hi g0 g1 g2 hlo he
    obtain ⟨u, hu⟩ : ∃ u, wrap64 ((i : Int) - 1) = u := ⟨_, rfl⟩
    simp only [hu]
    have HUU := Aside0.mk hu
    clear hu
    go_cut [15] (fun v15 w' => v15 = .int .i64 lo ∧ Aside0 (Up w2 w'))
    case first =>
      rcases Nat.eq_zero_or_pos i with h0 | h0
      · have hl1 : (-1 : Int) = lo := by rw [← HLO.out, if_pos h0]
        have hw : u = -1 := by rw [← HUU.out]; unfold wrap64; omega
        subst hl1
        clear h0
        subst hw
        go_wp2
        go_loopg [15] 0 (fun k v15 w' => v15 = .int .i64 (-1) ∧ w2 = w')
        case atStart => exact ⟨rfl, rfl⟩
        case round =>
          obtain ⟨rfl, rfl⟩ := hrel
          go_wp2
          go_meet
          exact ⟨rfl, ⟨up_refl _⟩⟩
      · obtain ⟨j, hj⟩ : ∃ j, i = j + 1 := ⟨i - 1, by omega⟩
        obtain ⟨m, hm⟩ : ∃ m, downT (jnF P) y j = m := ⟨_, rfl⟩
        have hl1 : (m : Int) = lo := by rw [← HLO.out, if_neg (by omega), ← hm, hj]; rfl
        have hw : u = (j : Int) := by rw [← HUU.out]; unfold wrap64; omega
        have HM : Aside0 (m ≤ j ∧ (∀ k, m < k → k ≤ j → jnF P (rd y (k : Int)) = 5) ∧ (m = 0 ∨ jnF P (rd y (m : Int)) ≠ 5)) := ⟨by rw [← hm]; exact downT_le _ _ _, by rw [← hm]; exact downT_way _ _ _, by rw [← hm]; exact downT_end _ _ _⟩
        have HJI := Aside0.mk hj
        subst hl1
        clear h0 hj hm
        subst hw
        go_wp2
        go_loopg [15] (j - m) (fun k v15 w' => ∃ l : Nat, v15 = .int .i64 l ∧ Aside0 (l = m + k ∧ l ≤ j) ∧ Aside0 (Up w2 w'))
        case atStart => exact ⟨j, rfl, ⟨by have := HM.out.1; omega, Nat.le_refl _⟩, ⟨up_refl _⟩⟩
        case round =>
          obtain ⟨l, rfl, HL, HV⟩ := hrel
          cases gk with
          | zero =>
            have hlm : l = m := by have := HL.out.1; omega
            subst hlm
            by_cases hm0 : l = 0
            · have d0 : ¬ (0 < (l : Int)) := by omega
              have d1 : ¬ (0 < l) := by omega
              clear hm0
              go_wp2
              go_meet
              exact ⟨rfl, ⟨HV.out⟩⟩
            · have d0 : 0 < (l : Int) := by omega
              have d1 : 0 < l := by omega
              have hl2 : (l : Int) < (y.length : Int) := by have := HJI.out; have := HM.out.1; omega
              have hl3 : l < y.length := by omega
              obtain ⟨v, hYV⟩ : ∃ v, jnF P (rd y (l : Int)) = v := ⟨_, rfl⟩
              have hv5 : v ≠ 5 := by rw [← hYV]; exact HM.out.2.2.resolve_left hm0
              have d5 : (v == 5) = false := beq_eq_false_iff_ne.mpr hv5
              clear hm0 hv5
              obtain ⟨ad, hA, hca⟩ := HI4.out.at_ l (by omega) (by have := HI1.out; omega)
              rw [Int.toNat_natCast] at hca
              cases hA
              have hcl := up_cell HV.out hca
              have HAR : Aside0 (-2147483648 ≤ rd y l ∧ rd y l ≤ 2147483647) := ⟨rd_wf HYW.out _⟩
              obtain ⟨a, ha⟩ : ∃ a, rd y l = a := ⟨_, rfl⟩
              rw [ha] at hcl HAR hYV
              have HYV := Aside0.mk hYV
              clear hca hYV ha
              go_wp2_with (first | (go_at_call 24; (with_reducible refine (HJ.out _ a v HV.out HAR.out.1 HAR.out.2 HYV.out).mono ?_); rintro e w3 ⟨rfl, hupj⟩; have HU3 := Aside0.mk (up_trans HV.out hupj); clear hupj))
              go_meet
              exact ⟨rfl, ⟨HU3.out⟩⟩
          | succ k =>
            have d0 : 0 < (l : Int) := by have := HL.out.1; omega
            have d1 : 0 < l := by have := HL.out.1; omega
            have hl2 : (l : Int) < (y.length : Int) := by have := HJI.out; have := HL.out.2; omega
            have hl3 : l < y.length := by omega
            have hYV : jnF P (rd y (l : Int)) = 5 := HM.out.2.1 l (by have := HL.out.1; omega) HL.out.2
            obtain ⟨l', hl'⟩ : ∃ l', l = l' + 1 := ⟨l - 1, by omega⟩
            have HL' : Aside0 (l' = m + k ∧ l' ≤ j) := ⟨by have := HL.out; omega⟩
            have HL1 := Aside0.mk hl'
            clear hl'
            obtain ⟨ad, hA, hca⟩ := HI4.out.at_ l (by omega) (by have := HI1.out; omega)
            rw [Int.toNat_natCast] at hca
            cases hA
            have hcl := up_cell HV.out hca
            have HAR : Aside0 (-2147483648 ≤ rd y l ∧ rd y l ≤ 2147483647) := ⟨rd_wf HYW.out _⟩
            obtain ⟨a, ha⟩ : ∃ a, rd y l = a := ⟨_, rfl⟩
            rw [ha] at hcl HAR hYV
            have HYV := Aside0.mk hYV
            clear hca hYV ha
            go_wp2_with (first | (go_at_call 24; (with_reducible refine (HJ.out _ a 5 HV.out HAR.out.1 HAR.out.2 HYV.out).mono ?_); rintro e w3 ⟨rfl, hupj⟩; have HU3 := Aside0.mk (up_trans HV.out hupj); clear hupj))
            go_roundg k
            case measure => omega
            case rel => exact ⟨l', by (have := HL1.out); congr 1; first | omega | (unfold wrap64; omega), HL', ⟨HU3.out⟩⟩
    case rest =>
      obtain ⟨rfl, HV1⟩ := hcut
      go_upto_block 2 with fail
      have HEE : Aside0 (i + 1 ≤ e ∧ e ≤ y.length ∧ (∀ k, i + 1 ≤ k → k < e → jnF P (rd y (k : Int)) = 5) ∧ (e = y.length ∨ jnF P (rd y (e : Int)) ≠ 5)) := ⟨by
        have h1 := HI1.out
        have h2 := upT_le (jnF P) y (y.length - (i + 1)) (i + 1)
        have h3 := upT_way (jnF P) y (y.length - (i + 1)) (i + 1)
        have h4 := upT_end (jnF P) y (y.length - (i + 1)) (i + 1)
        rw [HE.out] at h2 h3 h4
        exact ⟨h2.1, by omega, h3, h4.imp (fun h => by omega) id⟩⟩
      obtain ⟨u2, hu2⟩ : ∃ u2 : Int, (i : Int) + 1 = u2 := ⟨_, rfl⟩
      simp only [hu2]
      have HU2X := Aside0.mk hu2
      clear hu2
      go_cut [16] (fun v16 w' => v16 = .int .i64 (e : Int) ∧ Aside0 (Up w2 w'))
      case first =>
        have hu3 : u2 = ((i + 1 : Nat) : Int) := by have := HU2X.out; omega
        subst hu3
        go_wp2
        go_loopg [16] (e - (i + 1)) (fun k v16 w' => ∃ l : Nat, v16 = .int .i64 (l : Int) ∧ Aside0 (l + k = e ∧ i + 1 ≤ l) ∧ Aside0 (Up w2 w'))
        case atStart => exact ⟨i + 1, rfl, ⟨by have := HEE.out.1; omega, Nat.le_refl _⟩, ⟨HV1.out⟩⟩
        case round =>
          obtain ⟨l, rfl, HL, HV⟩ := hrel
          cases gk with
          | zero =>
            have hle : l = e := by have := HL.out.1; omega
            subst hle
            by_cases hn : l = y.length
            · have d0 : ¬ ((l : Int) < (y.length : Int)) := by omega
              have d1 : ¬ (l < y.length) := by omega
              clear hn
              go_wp2
              go_meet
              exact ⟨rfl, ⟨HV.out⟩⟩
            · have hl3 : l < y.length := by have := HEE.out.2.1; omega
              have hl2 : (l : Int) < (y.length : Int) := by omega
              have d0 : 0 ≤ (l : Int) := by omega
              obtain ⟨v, hYV⟩ : ∃ v, jnF P (rd y (l : Int)) = v := ⟨_, rfl⟩
              have hv5 : v ≠ 5 := by rw [← hYV]; exact HEE.out.2.2.2.resolve_left hn
              have d5 : (v == 5) = false := beq_eq_false_iff_ne.mpr hv5
              clear hn hv5
              obtain ⟨ad, hA, hca⟩ := HI4.out.at_ l (by omega) (by have := HI1.out; omega)
              rw [Int.toNat_natCast] at hca
              cases hA
              have hcl := up_cell HV.out hca
              have HAR : Aside0 (-2147483648 ≤ rd y l ∧ rd y l ≤ 2147483647) := ⟨rd_wf HYW.out _⟩
              obtain ⟨a, ha⟩ : ∃ a, rd y l = a := ⟨_, rfl⟩
              rw [ha] at hcl HAR hYV
              have HYV := Aside0.mk hYV
              clear hca hYV ha
              go_wp2_with (first | (go_at_call 24; (with_reducible refine (HJ.out _ a v HV.out HAR.out.1 HAR.out.2 HYV.out).mono ?_); rintro e w3 ⟨rfl, hupj⟩; have HU3 := Aside0.mk (up_trans HV.out hupj); clear hupj))
              go_meet
              exact ⟨rfl, ⟨HU3.out⟩⟩
          | succ k =>
            have hl3 : l < y.length := by have := HL.out.1; have := HEE.out.2.1; omega
            have hl2 : (l : Int) < (y.length : Int) := by omega
            have d0 : 0 ≤ (l : Int) := by omega
            have hYV : jnF P (rd y (l : Int)) = 5 := HEE.out.2.2.1 l HL.out.2 (by have := HL.out.1; omega)
            obtain ⟨ad, hA, hca⟩ := HI4.out.at_ l (by omega) (by have := HI1.out; omega)
            rw [Int.toNat_natCast] at hca
            cases hA
            have hcl := up_cell HV.out hca
            have HAR : Aside0 (-2147483648 ≤ rd y l ∧ rd y l ≤ 2147483647) := ⟨rd_wf HYW.out _⟩
            obtain ⟨a, ha⟩ : ∃ a, rd y l = a := ⟨_, rfl⟩
            rw [ha] at hcl HAR hYV
            have HYV := Aside0.mk hYV
            clear hca hYV ha
            go_wp2_with (first | (go_at_call 24; (with_reducible refine (HJ.out _ a 5 HV.out HAR.out.1 HAR.out.2 HYV.out).mono ?_); rintro e w3 ⟨rfl, hupj⟩; have HU3 := Aside0.mk (up_trans HV.out hupj); clear hupj))
            go_roundg k
            case measure => have := HL.out; omega
            case rel => exact ⟨l + 1, by first | rfl | (congr 1; first | omega | (unfold wrap64; omega)), ⟨by have := HL.out; omega, by have := HL.out; omega⟩, ⟨HU3.out⟩⟩
      case rest =>
        obtain ⟨rfl, HV2⟩ := hcut
        go_upto_region 15 with fail
        obtain ⟨q', hq'⟩ : ∃ q' : List Int, (if 0 ≤ lo ∧ jnF P (rd y lo) ≠ 5 then p else []) = q' := ⟨_, rfl⟩
        have HQ' := Aside0.mk hq'
        have HQL' : Aside0 (q'.length ≤ 30 ∧ ∀ z ∈ q', (Lit.int .i32 z).wf = true) := ⟨by rw [← hq']; split; exact ⟨HPL.out, HPW.out⟩; exact ⟨Nat.zero_le _, fun z hz => by cases hz⟩⟩
        clear hq'
        have HLL : Aside0 (lo = -1 ∧ i = 0 ∨ ∃ m : Nat, lo = (m : Int) ∧ m < i) := ⟨by
          rcases Nat.eq_zero_or_pos i with h0 | h0
          · exact .inl ⟨by rw [← HLO.out, if_pos h0], h0⟩
          · exact .inr ⟨_, by rw [← HLO.out, if_neg (by omega)], by have := downT_le (jnF P) y (i - 1); omega⟩⟩
        obtain ⟨bb, hbb⟩ : ∃ bb : Bool, decide (0 ≤ lo ∧ jnF P (rd y lo) ≠ 5) = bb := ⟨_, rfl⟩
        have HBB := Aside0.mk hbb
        clear hbb
        go_cut [88] (fun v88 w' => v88 = .bool bb ∧ Aside0 (Up w2 w'))
        case first =>
          by_cases hl0 : 0 ≤ lo
          · obtain ⟨l, hl⟩ := Int.eq_ofNat_of_zero_le hl0
            subst hl
            have hli : l < i := by rcases HLL.out with ⟨h, _⟩ | ⟨m, h, h'⟩ <;> omega
            have hl3 : l < y.length := by have := HI1.out; omega
            have hl2 : (l : Int) < (y.length : Int) := by omega
            clear hli
            obtain ⟨v, hYV⟩ : ∃ v, jnF P (rd y (l : Int)) = v := ⟨_, rfl⟩
            by_cases hv5 : v = 5
            · have hb0 : false = bb := by rw [← HBB.out, hYV, hv5]; simp
              subst hv5
              subst hb0
              obtain ⟨ad, hA, hca⟩ := HI4.out.at_ l (by omega) (by have := HI1.out; omega)
              rw [Int.toNat_natCast] at hca
              cases hA
              have hcl := up_cell HV2.out hca
              have HAR : Aside0 (-2147483648 ≤ rd y l ∧ rd y l ≤ 2147483647) := ⟨rd_wf HYW.out _⟩
              obtain ⟨a, ha⟩ : ∃ a, rd y l = a := ⟨_, rfl⟩
              rw [ha] at hcl HAR hYV
              have HYV := Aside0.mk hYV
              clear hca hYV ha
              go_wp2_with (first | (go_at_call 24; (with_reducible refine (HJ.out _ a 5 HV2.out HAR.out.1 HAR.out.2 HYV.out).mono ?_); rintro e w3 ⟨rfl, hupj⟩; have HU3 := Aside0.mk (up_trans HV2.out hupj); clear hupj))
              go_meet
              exact ⟨rfl, ⟨HU3.out⟩⟩
            · have hb0 : true = bb := by rw [← HBB.out, hYV]; symm; exact decide_eq_true ⟨hl0, hv5⟩
              have d5 : (v != 5) = true := bne_iff_ne.mpr hv5
              have d6 : (v == 5) = false := beq_eq_false_iff_ne.mpr hv5
              subst hb0
              clear hv5
              obtain ⟨ad, hA, hca⟩ := HI4.out.at_ l (by omega) (by have := HI1.out; omega)
              rw [Int.toNat_natCast] at hca
              cases hA
              have hcl := up_cell HV2.out hca
              have HAR : Aside0 (-2147483648 ≤ rd y l ∧ rd y l ≤ 2147483647) := ⟨rd_wf HYW.out _⟩
              obtain ⟨a, ha⟩ : ∃ a, rd y l = a := ⟨_, rfl⟩
              rw [ha] at hcl HAR hYV
              have HYV := Aside0.mk hYV
              clear hca hYV ha
              go_wp2_with (first | (go_at_call 24; (with_reducible refine (HJ.out _ a v HV2.out HAR.out.1 HAR.out.2 HYV.out).mono ?_); rintro e w3 ⟨rfl, hupj⟩; have HU3 := Aside0.mk (up_trans HV2.out hupj); clear hupj))
              go_meet
              exact ⟨rfl, ⟨HU3.out⟩⟩
          · have hb0 : false = bb := by rw [← HBB.out]; symm; exact decide_eq_false (fun h => hl0 h.1)
            subst hb0
            have d0 : lo < 0 := by omega
            clear hl0
            go_wp2
            go_meet
            exact ⟨rfl, ⟨HV2.out⟩⟩
        case rest =>
        obtain ⟨rfl, HV2b⟩ := hcut
        go_upto_if 88 with fail
        go_cut [17] (fun v17 w' => ∃ (Aq : Option Addr) (cq : Nat), v17 = .slice Aq q'.length cq ∧ Aside0 (w'.ownsRow w2.heap.size 21 1 (.slice Aq q'.length cq) q'.length (q'.map (Value.int .i32))) ∧ Aside0 (Up w2 w'))
        case first =>
          cases bb with
          | true =>
            have hq0 : q' = p := by rw [← HQ'.out, if_pos (of_decide_eq_true HBB.out)]
            subst hq0
            go_wp2_with (first | (go_at_call 22; (with_reducible refine (few16_at Ah ch ah q' 30 30 rfl _ (HI2.out.up (up_trans HU2.out HV2b.out)) HX2.out HXC2.out (by decide) HP.out).mono ?_); rintro e w4 ⟨v4, rfl, hown4, hup4⟩; obtain ⟨A5, c5, rfl, hi5, _⟩ := own_ints hown4; have HU4 := Aside0.mk (up_trans HV2b.out hup4); have HOW4 := Aside0.mk (own_mono hown4 HV2b.out.size); clear hown4 hup4 hi5))
            go_meet
            exact ⟨A5, c5, rfl, ⟨HOW4.out⟩, ⟨HU4.out⟩⟩
          | false =>
            have hq0 : q' = [] := by rw [← HQ'.out, if_neg (of_decide_eq_false HBB.out)]
            subst hq0
            go_wp2
            go_meet
            exact ⟨none, 0, rfl, ⟨World.ownsRow_nil _ _ _ _⟩, ⟨HV2b.out⟩⟩
        case rest =>
          obtain ⟨Aq, cq, rfl, HQO, HV3⟩ := hcut
          obtain ⟨g, hg, hnc⟩ : ∃ g, A4 = some ⟨g, 0, none⟩ ∧ y.length ≤ c4 := by
            rcases HOW.out.2 with ⟨hv, hn⟩ | ⟨g, cap, cur, hv, _, _, hnc, _⟩
            · omega
            · injection hv with e1 e2 e3
              exact ⟨g, e1, by omega⟩
          subst hg
          obtain ⟨l, hl⟩ : ∃ l : Nat, max lo 0 = (l : Int) := Int.eq_ofNat_of_zero_le (Int.le_max_right _ _)
          have hli : l ≤ i := by rcases HLL.out with ⟨h, _⟩ | ⟨m, h, h'⟩ <;> omega
          have h60 := HEE.out.2.1
          have hii := HEE.out.1
          obtain ⟨m, hm⟩ : ∃ m : Nat, min ((e : Int) + 1) (y.length : Int) = (m : Int) := Int.eq_ofNat_of_zero_le (by omega)
          have hm2 : m = min (e + 1) y.length := by omega
          have HMM := Aside0.mk hm2
          have HLM := Aside0.mk hl
          have hlm : l ≤ m := by omega
          have hlm2 : l < m := by have := HI1.out; omega
          have hmy : m ≤ y.length := by omega
          have hmc : m ≤ c4 := by omega
          have b1 : (l : Int) ≤ (m : Int) := by omega
          have b2 : (m : Int) ≤ (c4 : Int) := by omega
          have b3 : 0 ≤ (l : Int) := by omega
          have hq30 := HQL'.out.1
          clear hm2
          obtain ⟨mid, hmid⟩ : ∃ mid, (y.drop l).take (m - l) = mid := ⟨_, rfl⟩
          obtain ⟨r, hr⟩ : ∃ r, q' ++ mid = r := ⟨_, rfl⟩
          have hml : mid.length = m - l := by rw [← hmid, List.length_take, List.length_drop]; omega
          have HMI : Aside0 (Ints .i32 wc (some ⟨g, l, none⟩) mid) := ⟨by rw [← hmid]; exact ints_take (ints_from (HI4.out.up HV3.out) l) _⟩
          have HML : Aside0 ((mid.map (Value.int .i32)).length = (m - l) * 1 ∧ q'.length + (m - l) ≤ maxLen ∧ (q'.length + (m - l)) * 4 ≤ 140737488355328) := ⟨by rw [List.length_map, hml, Nat.mul_one], by unfold maxLen; omega, by omega⟩
          have HRR : Aside0 (r.length = q'.length + (m - l) ∧ r.map (Value.int .i32) = q'.map (Value.int .i32) ++ mid.map (Value.int .i32)) := ⟨by rw [← hr, List.length_append, hml], by rw [← hr, List.map_append]⟩
          have HRL : Aside0 (r.length ≤ 100 ∧ ∀ z ∈ r, (Lit.int .i32 z).wf = true) := ⟨by rw [HRR.out.1]; omega, fun z hz => by
            rw [← hr] at hz
            rcases List.mem_append.1 hz with hz | hz
            · exact HQL'.out.2 z hz
            · rw [← hmid] at hz
              exact HYW.out z (List.mem_of_mem_drop (List.mem_of_mem_take hz))⟩
          obtain ⟨ie, ze, hie, hze, hsi, hby, hzc⟩ := i32_info
          obtain ⟨bv, hbv⟩ : ∃ bv, fitsF (jnF P) (clF P) y (i : Int) = bv := ⟨_, rfl⟩
          have HBV := Aside0.mk hbv
          have hat : (q'.length : Int) + (i : Int) - (l : Int) = ((q'.length + i - l : Nat) : Int) := by omega
          have HAT := Aside0.mk hat
          have HCUT : Aside0 (∀ t : List Int, (e = y.length ∧ t = []) ∨ (e < y.length ∧ jnF P (rd y (e : Int)) ≠ 5 ∧ t = q) → fitsF (jnF P) (clF P) (r ++ t) ((q'.length : Int) + (i : Int) - (l : Int)) = bv) := ⟨fun t ht => by
            rw [hat, ← hbv, ← hr, ← hmid, HMM.out]
            symm
            rcases HLL.out with ⟨h1, h2⟩ | ⟨mm, h1, h2⟩
            · have hl0 : l = 0 := by omega
              have hq0 : q' = [] := by rw [← HQ'.out, if_neg (by rw [h1]; intro h; omega)]
              exact near_cut y p q i 0 l e q' t HI1.out (by omega) HEE.out.2.1 (.inl ⟨rfl, hl0, hq0⟩) (fun k hk1 hk2 => by omega) ht (fun k hk1 hk2 => HEE.out.2.2.1 k (by omega) hk2)
            · have hll : l = mm := by omega
              have hdn : lo = (downT (jnF P) y (i - 1) : Int) := by rw [← HLO.out, if_neg (by omega)]
              have hmd : mm = downT (jnF P) y (i - 1) := by omega
              have hway := downT_way (jnF P) y (i - 1)
              have hend := downT_end (jnF P) y (i - 1)
              rw [← hmd] at hway hend
              by_cases h5 : jnF P (rd y (mm : Int)) = 5
              · have hm0 : mm = 0 := hend.resolve_right (fun h => h h5)
                have hq0 : q' = [] := by rw [← HQ'.out, if_neg (by rw [h1]; intro h; exact h.2 h5)]
                refine near_cut y p q i 0 l e q' t HI1.out (by omega) HEE.out.2.1 (.inl ⟨rfl, by omega, hq0⟩) (fun k hk1 hk2 => ?_) ht (fun k hk1 hk2 => HEE.out.2.2.1 k (by omega) hk2)
                by_cases hk0 : k = 0
                · rw [hk0, ← hm0]; exact h5
                · exact hway k (by omega) (by omega)
              · have hq0 : q' = p := by rw [← HQ'.out, if_pos ⟨by omega, by rw [h1]; exact h5⟩]
                exact near_cut y p q i (l + 1) l e q' t HI1.out (by omega) HEE.out.2.1 (.inr ⟨rfl, by omega, by rw [hll]; exact h5, hq0⟩) (fun k hk1 hk2 => hway k (by omega) (by omega)) ht (fun k hk1 hk2 => HEE.out.2.2.1 k (by omega) hk2)⟩
          clear hmid hr hbv hat
          by_cases hen : e = y.length
          · have hd : ¬ ((e : Int) < (y.length : Int)) := by omega
            have hd1 : ¬ (e < y.length) := by omega
            have HB2 : Aside0 (fitsF (jnF P) (clF P) r ((q'.length : Int) + (i : Int) - (l : Int)) = bv) := ⟨by have := HCUT.out [] (.inl ⟨hen, rfl⟩); rwa [List.append_nil] at this⟩
            clear hen
            go_wp2_with (first | (at_builtin; refine (wpList_append_row _ rfl _ _ 23 rfl w2.heap.size 21 ie ze 1 4 Tryz.underlying23 hie hze hsi hby hzc (by decide) (.slice Aq q'.length cq) q'.length (q'.map (Value.int .i32)) rfl HQO.out (some ⟨g, l, none⟩) (m - l) (c4 - l) (mid.map (Value.int .i32)) rfl HML.out.1 HMI.out (ints_one _ _) HML.out.2.1 HML.out.2.2 HV3.out.size ?_); intro v5 w5 hown5 hgrow5 hat5; have HU5 := Aside0.mk ((HV3.out).grown hgrow5 HV3.out.size (fun k hk => (HQO.out.lt k hk).1)); have HO5 : Aside0 (w5.ownsRow w2.heap.size 21 1 v5 r.length (r.map (Value.int .i32))) := ⟨by rw [HRR.out.1, HRR.out.2]; exact hown5⟩; obtain ⟨A5, c5, hv5⟩ := own_any HO5.out; subst hv5; clear hown5 hgrow5 hat5) | (go_at_call_has 25 (i : Int); (with_reducible refine (Fits_calls (HD2.out.up HU5.out) HG.out _ c4 y (i : Int) (HI4.out.up HU5.out) (Nat.lt_of_le_of_lt HYL.out (by decide)) HYW.out bv HBV.out).mono ?_); rintro e w6 ⟨rfl, hup6⟩; have HU56 := Aside0.mk hup6; have HU6 := Aside0.mk (up_trans HU5.out hup6); clear hup6) | (go_at_call 25; (with_reducible refine (Fits_calls (HD2.out.up HU6.out) HG.out A5 c5 r _ ((own_ints' HO5.out).up HU56.out) (Nat.lt_of_le_of_lt HRL.out.1 (by decide)) HRL.out.2 bv HB2.out).mono ?_); rintro e w7 ⟨rfl, hup7⟩; have HU7 := Aside0.mk (up_trans HU6.out hup7); clear hup7))
            go_ret
            exact ⟨rfl, up_trans HU2.out HU7.out⟩
          · have hd1 : e < y.length := by have := HEE.out.2.1; omega
            have hd : (e : Int) < (y.length : Int) := by omega
            have HB2 : Aside0 (fitsF (jnF P) (clF P) (r ++ q) ((q'.length : Int) + (i : Int) - (l : Int)) = bv) := ⟨HCUT.out q (.inr ⟨hd1, HEE.out.2.2.2.resolve_left hen, rfl⟩)⟩
            have HR2 : Aside0 ((r ++ q).length = r.length + q.length ∧ (r ++ q).map (Value.int .i32) = r.map (Value.int .i32) ++ q.map (Value.int .i32)) := ⟨List.length_append, List.map_append⟩
            have HRL2 : Aside0 ((r ++ q).length < 4611686018427387904 ∧ ∀ z ∈ r ++ q, (Lit.int .i32 z).wf = true) := ⟨by rw [List.length_append]; have := HRL.out.1; have := HQL.out; omega, fun z hz => by
              rcases List.mem_append.1 hz with hz | hz
              · exact HRL.out.2 z hz
              · exact HQW.out z hz⟩
            have HML2 : Aside0 ((q.map (Value.int .i32)).length = q.length * 1 ∧ r.length + q.length ≤ maxLen ∧ (r.length + q.length) * 4 ≤ 140737488355328) := ⟨by rw [List.length_map, Nat.mul_one], by have := HRL.out.1; have := HQL.out; unfold maxLen; omega, by have := HRL.out.1; have := HQL.out; omega⟩
            obtain ⟨r2, hr2⟩ : ∃ r2, r ++ q = r2 := ⟨_, rfl⟩
            rw [hr2] at HR2 HRL2 HB2
            clear hen hr2
            go_wp2_with (first | (at_builtin; refine (wpList_append_row _ rfl _ _ 23 rfl w2.heap.size 21 ie ze 1 4 Tryz.underlying23 hie hze hsi hby hzc (by decide) (.slice A5 r.length c5) r.length (r.map (Value.int .i32)) rfl HO6.out A6 q.length c6 (q.map (Value.int .i32)) rfl HML2.out.1 HI6.out (ints_one _ _) HML2.out.2.1 HML2.out.2.2 HU6.out.size ?_); intro v7 w7 hown7 hgrow7 hat7; have HU7 := Aside0.mk ((HU6.out).grown hgrow7 HU6.out.size (fun k hk => (HO6.out.lt k hk).1)); have HO7 : Aside0 (w7.ownsRow w2.heap.size 21 1 v7 r2.length (r2.map (Value.int .i32))) := ⟨by rw [HR2.out.1, HR2.out.2]; exact hown7⟩; obtain ⟨A7, c7, hv7⟩ := own_any HO7.out; subst hv7; clear hown7 hgrow7 hat7) | (at_builtin; refine (wpList_append_row _ rfl _ _ 23 rfl w2.heap.size 21 ie ze 1 4 Tryz.underlying23 hie hze hsi hby hzc (by decide) (.slice Aq q'.length cq) q'.length (q'.map (Value.int .i32)) rfl HQO.out (some ⟨g, l, none⟩) (m - l) (c4 - l) (mid.map (Value.int .i32)) rfl HML.out.1 HMI.out (ints_one _ _) HML.out.2.1 HML.out.2.2 HV3.out.size ?_); intro v5 w5 hown5 hgrow5 hat5; have HU5 := Aside0.mk ((HV3.out).grown hgrow5 HV3.out.size (fun k hk => (HQO.out.lt k hk).1)); have HO5 : Aside0 (w5.ownsRow w2.heap.size 21 1 v5 r.length (r.map (Value.int .i32))) := ⟨by rw [HRR.out.1, HRR.out.2]; exact hown5⟩; obtain ⟨A5, c5, hv5⟩ := own_any HO5.out; subst hv5; clear hown5 hgrow5 hat5) | (go_at_call 22; (with_reducible refine (few16_at Ab cb be q 30 30 rfl _ (HI3.out.up (up_trans HU2.out HU5.out)) HX3.out HXC3.out (by decide) HQ.out).mono ?_); rintro e w6 ⟨v6, rfl, hown6, hup6⟩; obtain ⟨A6, c6, rfl, hi6, _⟩ := own_ints hown6; have HI6 := Aside0.mk hi6; have HU6 := Aside0.mk (up_trans HU5.out hup6); have HO6 := Aside0.mk (own_up HO5.out hup6); clear hown6 hup6 hi6) | (go_at_call_has 25 (i : Int); (with_reducible refine (Fits_calls (HD2.out.up HU7.out) HG.out _ c4 y (i : Int) (HI4.out.up HU7.out) (Nat.lt_of_le_of_lt HYL.out (by decide)) HYW.out bv HBV.out).mono ?_); rintro e w8 ⟨rfl, hup8⟩; have HU78 := Aside0.mk hup8; have HU8 := Aside0.mk (up_trans HU7.out hup8); clear hup8) | (go_at_call 25; (with_reducible refine (Fits_calls (HD2.out.up HU8.out) HG.out A7 c7 r2 _ ((own_ints' HO7.out).up HU78.out) HRL2.out.1 HRL2.out.2 bv HB2.out).mono ?_); rintro e w9 ⟨rfl, hup9⟩; have HU9 := Aside0.mk (up_trans HU8.out hup9); clear hup9))
            go_ret
            exact ⟨rfl, up_trans HU2.out HU9.out⟩
end Go.Proofs.YthneeainigdmhaaGreat.M
