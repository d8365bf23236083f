/- endonymref16.Fits, walked. (printed by mkrfits.py) -/
import Derived.Test.YtfoldfaeelggoaaGreatPJoin2
import Derived.Test.YtfoldfaeelggoaaGreatK37
import Derived.Deep.Slices
set_option linter.unusedVariables false
set_option linter.unusedSimpArgs false
namespace Go.Proofs.YtfoldfaeelggoaaGreat.M
open Go.RowKit
set_option maxHeartbeats 16000000
set_option maxRecDepth 100000

theorem way_ok_up {k n : Nat} (h : (k : Int) < n) : 0 ≤ (k : Int) + 1 ∧ (k : Int) + 1 ≤ n := ⟨by omega, by omega⟩
theorem way_ok_down {k n : Nat} (h : (k : Int) < n) : -1 ≤ (k : Int) - 1 ∧ (k : Int) - 1 < n := ⟨by omega, by omega⟩
theorem RFits_calls (A : Option Addr) (c : Nat) (T : List Rec) (Ax : Option Addr) (cx : Nat) (x : List Int) (i : Int) (w : World) (hT : Table w A T) (hR : ∀ x ∈ T, Right x) (hW : ∀ x ∈ T, x.Wf) (hl : T.length ≤ 4096)
    (hI : Ints .i32 w Ax x) (hx : x.length < 4611686018427387904) (hwf : ∀ z ∈ x, (Lit.int .i32 z).wf = true) (b : Bool) (hb : fitsF (jnF T) (clF T) x i = b) :
    Calls Tryz.prog 25 #[.slice A T.length c, .slice Ax x.length cx, .int .i64 i] w fun e w' => e = .returned (.bool b) ∧ Up w w' := by
  have HJ : Aside0 (∀ (W : World) (a r : Int), Up w W → -2147483648 ≤ a → a ≤ 2147483647 → jnF T a = r → Calls Tryz.prog 28 #[.slice A T.length c, .int .i32 a] W fun e w' => e = .returned (.int .i64 r) ∧ Up W w') := ⟨fun W a r hu h1 h2 h3 => TJoin_calls A c T a W (hT.up hu) hR hW hl h1 h2 r h3⟩
  have HCL : Aside0 (∀ (W : World) (a r : Int), Up w W → -2147483648 ≤ a → a ≤ 2147483647 → clF T a = r → Calls Tryz.prog 35 #[.slice A T.length c, .int .i32 a] W fun e w' => e = .returned (.int .i64 r) ∧ Up W w') := ⟨fun W a r hu h1 h2 h3 => TClass_calls A c T a W (hT.up hu) hR hW hl h1 h2 r h3⟩
  clear hT hR hW hl
  by_cases hout : i < 0 ∨ (x.length : Int) ≤ i
  · rw [fits_out hout] at hb
    subst hb
    rcases hout with e1 | e1
    · clear hI
      go_enter Tryz.func25, Tryz.ntmps25
      go_wp2
      go_ret
      exact ⟨rfl, up_refl _⟩
    · have e2 : ¬ (i < 0) := by omega
      clear hI
      go_enter Tryz.func25, Tryz.ntmps25
      go_wp2
      go_ret
      exact ⟨rfl, up_refl _⟩
  have HOUT := Aside0.mk hout
  have e1 : ¬ (i < 0) := by omega
  have e2 : ¬ ((x.length : Int) ≤ i) := by omega
  obtain ⟨n, rfl⟩ := Int.eq_ofNat_of_zero_le (by omega : 0 ≤ i)
  have hn : n < x.length := by omega
  have HN := Aside0.mk hn
  have e2' : ¬ (x.length ≤ n) := by omega
  have f1 : 0 ≤ (n : Int) := by omega
  have f2 : (n : Int) < (x.length : Int) := by omega
  obtain ⟨ad, hA, hc⟩ := hI.at_ n f1 f2
  rw [Int.toNat_natCast] at hc
  subst hA
  have HI := Aside0.mk hI
  have HX := Aside0.mk hx
  have HWF := Aside0.mk hwf
  obtain ⟨a, ha⟩ : ∃ a, rd x n = a := ⟨_, rfl⟩
  rw [ha] at hc
  have HA := Aside0.mk ha
  by_cases hpl : a ≠ 8204 ∧ a ≠ 8205
  · rw [fits_plain hout (by rw [ha]; exact hpl)] at hb
    subst hb
    have q1 : (a == 8204) = false := beq_eq_false_iff_ne.mpr hpl.1
    have q2 : (a == 8205) = false := beq_eq_false_iff_ne.mpr hpl.2
    have q3 : (a != 8204) = true := bne_iff_ne.mpr hpl.1
    have q4 : (a != 8205) = true := bne_iff_ne.mpr hpl.2
    clear hI hx hwf hpl hout hn ha
    go_enter Tryz.func25, Tryz.ntmps25
    go_wp2
    go_ret
    exact ⟨rfl, up_refl _⟩
  have hq : a = 8204 ∨ a = 8205 := by
    rcases Int.decEq a 8204 with h | h
    · rcases Int.decEq a 8205 with h' | h'
      · exact absurd ⟨h, h'⟩ hpl
      · exact .inr h'
    · exact .inl h
  have HWD : Aside0 (Way x (-1) ((n : Int) - 1) (x.take n).reverse) := ⟨way_down x n (by omega)⟩
  have HWU : Aside0 (Way x 1 ((n : Int) + 1) (x.drop (n + 1))) := ⟨by have := way_up x (x.length - (n + 1)) (n + 1) (by omega); rwa [show ((n + 1 : Nat) : Int) = (n : Int) + 1 by omega] at this⟩
  have hwd : wrap64 ((n : Int) - 1) = (n : Int) - 1 := by unfold wrap64; omega
  have hwu : wrap64 ((n : Int) + 1) = (n : Int) + 1 := by unfold wrap64; omega
  by_cases hn0 : n = 0
  · have hl : ¬ (0 < (n : Int) ∧ clF T (rd x ((n : Int) - 1)) = 9) := fun hh => by omega
    have g1 : decide (0 < (n : Int)) = false := decide_eq_false (by omega)
    have g2 : decide (0 < n) = false := decide_eq_false (by omega)
    rcases hq with rfl | rfl
    · rw [fits_non hn ha hl] at hb
      have HB0 := Aside0.mk hb
      clear hI hx hwf hpl hout hn ha hl hb hn0
      go_enter Tryz.func25, Tryz.ntmps25
      go_wp2
      (try simp only [hwd])
      go_loopg [7] n (fun k v7 w' => ∃ (M : List Int) (kk : Int), v7 = .int .i64 kk ∧ Aside0 (M.length = k ∧ Way x (-1) kk M ∧ firstV (jnF T) M = firstV (jnF T) (x.take n).reverse ∧ -1 ≤ kk ∧ kk < x.length) ∧ Aside0 (Up w w'))
      case atStart => exact ⟨(x.take n).reverse, (n : Int) - 1, by first | rfl | rw [hwd], ⟨by have := HN.out; simp; omega, HWD.out, rfl, by omega, by have := HN.out; omega⟩, ⟨up_refl _⟩⟩
      case round =>
        obtain ⟨M, kk, rfl, HM, HV1⟩ := hrel
        cases M with
        | nil =>
          have hk : kk = -1 := by
            rcases HM.out.2.1 with h | h
            · have := HM.out.2.2.2.1; omega
            · have := HM.out.2.2.2.2; omega
          have HL : Aside0 (firstV (jnF T) (x.take n).reverse = 5) := ⟨HM.out.2.2.1.symm⟩
          subst hk
          obtain ⟨wl, hwl⟩ : ∃ wl : World, wl = wr := ⟨_, rfl⟩
          go_wp2
          (try simp only [hwu])
          go_loopg [8] (x.drop (n + 1)).length (fun k v8 w' => ∃ (M : List Int) (kk : Int), v8 = .int .i64 kk ∧ Aside0 (M.length = k ∧ Way x 1 kk M ∧ firstV (jnF T) M = firstV (jnF T) (x.drop (n + 1)) ∧ 0 ≤ kk ∧ kk ≤ x.length) ∧ Aside0 (Up w w'))
          case atStart => exact ⟨_, (n : Int) + 1, by first | rfl | rw [hwu], ⟨rfl, HWU.out, rfl, by have := HN.out; omega, by have := HN.out; omega⟩, ⟨HV1.out⟩⟩
          case round =>
            obtain ⟨M, kk, rfl, HM, HV0⟩ := hrel
            obtain ⟨w4, hw4⟩ : ∃ w4 : World, w4 = wr := ⟨_, rfl⟩
            cases M with
            | nil =>
              have hk : kk = x.length := by
                rcases HM.out.2.1 with h | h
                · have := HM.out.2.2.2.1; omega
                · have := HM.out.2.2.2.2; omega
              have HR2 : Aside0 (firstV (jnF T) (x.drop (n + 1)) = 5) := ⟨HM.out.2.2.1.symm⟩
              subst hk
              subst hw4
              have HV := HV0
              have hb := HB0.out
              rw [HL.out] at hb
              have hb : false = b := hb
              subst hb
              go_wp2
              go_ret
              exact ⟨rfl, HV.out⟩
            | cons a2 M =>
              obtain ⟨g, rfl⟩ : ∃ g, gk = g + 1 := ⟨M.length, HM.out.1.symm⟩
              obtain ⟨h2, h3, h4, h5⟩ : 0 ≤ kk ∧ kk < x.length ∧ rd x kk = a2 ∧ Way x 1 (kk + 1) M := HM.out.2.1
              obtain ⟨kr, rfl⟩ := Int.eq_ofNat_of_zero_le h2
              obtain ⟨ad2, hA2, hc2⟩ := HI.out.at_ kr h2 h3
              rw [Int.toNat_natCast, h4] at hc2
              cases hA2
              have HC2 := Aside0.mk hc2
              have hcw := up_cell HV0.out hc2
              have HA2 : Aside0 (-2147483648 ≤ a2 ∧ a2 ≤ 2147483647) := ⟨by rw [← h4]; exact rd_wf HWF.out kr⟩
              have h3n : kr < x.length := by omega
              have h3b : (kr == x.length) = false := beq_eq_false_iff_ne.mpr (by omega)
              have h3c : ((kr : Int) == (x.length : Int)) = false := beq_eq_false_iff_ne.mpr (by omega)
              have hwn : wrap64 ((kr : Int) + 1) = (kr : Int) + 1 := by have := HX.out; unfold wrap64; omega
              have hL2 : firstV (jnF T) (x.drop (n + 1)) = if jnF T a2 = 5 then firstV (jnF T) M else jnF T a2 := HM.out.2.2.1.symm
              have H5 := Aside0.mk h5
              have HN2 : Aside0 (M.length = g ∧ 0 ≤ (kr : Int) + 1 ∧ (kr : Int) + 1 ≤ x.length) := ⟨Nat.succ.inj HM.out.1, way_ok_up h3⟩
              obtain ⟨y2, hy2⟩ : ∃ y2, jnF T a2 = y2 := ⟨_, rfl⟩
              have HY2 := Aside0.mk hy2
              rw [hy2] at hL2
              clear h5 h4 hy2 HM hc2
              by_cases hy5 : y2 = 5
              · rw [if_pos hy5] at hL2
                subst hy5
                subst hw4
                have HL2 := Aside0.mk hL2
                clear hL2
                go_wp2_with (first | (go_at_call 28; (with_reducible refine (HJ.out _ a2 5 HV0.out HA2.out.1 HA2.out.2 HY2.out).mono ?_); rintro e w4 ⟨rfl, hup4⟩; have HU4 := Aside0.mk (up_trans HV0.out hup4); clear hup4))
                go_roundg g
                case measure => have := HN2.out; omega
                case rel => exact ⟨M, (kr : Int) + 1, by first | rfl | rw [hwn], ⟨HN2.out.1, H5.out, HL2.out.symm, HN2.out.2⟩, ⟨HU4.out⟩⟩
              · rw [if_neg hy5] at hL2
                have d5 : (y2 == 5) = false := beq_eq_false_iff_ne.mpr hy5
                have HR2 := Aside0.mk hL2
                subst hw4
                clear hL2 hy5
                go_wp2_with (first | (go_at_call 28; (with_reducible refine (HJ.out _ a2 y2 HV0.out HA2.out.1 HA2.out.2 HY2.out).mono ?_); rintro e w4 ⟨rfl, hup4⟩; have HV := Aside0.mk (up_trans HV0.out hup4); clear hup4))
                have hb := HB0.out
                rw [HL.out] at hb
                have hb : false = b := hb
                subst hb
                go_wp2
                go_ret
                exact ⟨rfl, HV.out⟩
        | cons a1 M =>
          obtain ⟨g, rfl⟩ : ∃ g, gk = g + 1 := ⟨M.length, HM.out.1.symm⟩
          obtain ⟨h2, h3, h4, h5⟩ : 0 ≤ kk ∧ kk < x.length ∧ rd x kk = a1 ∧ Way x (-1) (kk + -1) M := HM.out.2.1
          obtain ⟨kl, rfl⟩ := Int.eq_ofNat_of_zero_le h2
          obtain ⟨ad1, hA1, hc1⟩ := HI.out.at_ kl h2 h3
          rw [Int.toNat_natCast, h4] at hc1
          cases hA1
          have HC1 := Aside0.mk hc1
          have hcv := up_cell HV1.out hc1
          have HA1 : Aside0 (-2147483648 ≤ a1 ∧ a1 ≤ 2147483647) := ⟨by rw [← h4]; exact rd_wf HWF.out kl⟩
          have hwn1 : wrap64 ((kl : Int) - 1) = (kl : Int) - 1 := by have := HX.out; unfold wrap64; omega
          have hL1 : firstV (jnF T) (x.take n).reverse = if jnF T a1 = 5 then firstV (jnF T) M else jnF T a1 := HM.out.2.2.1.symm
          have H51 : Aside0 (Way x (-1) ((kl : Int) - 1) M) := ⟨h5⟩
          have HN1 : Aside0 (M.length = g ∧ -1 ≤ (kl : Int) - 1 ∧ (kl : Int) - 1 < x.length) := ⟨Nat.succ.inj HM.out.1, way_ok_down h3⟩
          obtain ⟨y1, hy1⟩ : ∃ y1, jnF T a1 = y1 := ⟨_, rfl⟩
          have HY1 := Aside0.mk hy1
          rw [hy1] at hL1
          clear h5 h4 hy1 HM hc1
          by_cases hy15 : y1 = 5
          · rw [if_pos hy15] at hL1
            subst hy15
            have HL1 := Aside0.mk hL1
            clear hL1
            go_wp2_with (first | (go_at_call 28; (with_reducible refine (HJ.out _ a1 5 HV1.out HA1.out.1 HA1.out.2 HY1.out).mono ?_); rintro e w3 ⟨rfl, hup3⟩; have HU3 := Aside0.mk (up_trans HV1.out hup3); clear hup3))
            go_roundg g
            case measure => have := HN1.out; omega
            case rel => exact ⟨M, (kl : Int) - 1, by first | rfl | rw [hwn1], ⟨HN1.out.1, H51.out, HL1.out.symm, HN1.out.2⟩, ⟨HU3.out⟩⟩
          · rw [if_neg hy15] at hL1
            have d15 : (y1 == 5) = false := beq_eq_false_iff_ne.mpr hy15
            have HL := Aside0.mk hL1
            clear hL1 hy15
            go_wp2_with (first | (go_at_call 28; (with_reducible refine (HJ.out _ a1 y1 HV1.out HA1.out.1 HA1.out.2 HY1.out).mono ?_); rintro e w3 ⟨rfl, hup3⟩; have HU3 := Aside0.mk (up_trans HV1.out hup3); clear hup3))
            obtain ⟨wl, hwl⟩ : ∃ wl : World, wl = w3 := ⟨_, rfl⟩
            (try simp only [hwu])
            go_loopg [8] (x.drop (n + 1)).length (fun k v8 w' => ∃ (M : List Int) (kk : Int), v8 = .int .i64 kk ∧ Aside0 (M.length = k ∧ Way x 1 kk M ∧ firstV (jnF T) M = firstV (jnF T) (x.drop (n + 1)) ∧ 0 ≤ kk ∧ kk ≤ x.length) ∧ Aside0 (Up w w'))
            case atStart => exact ⟨_, (n : Int) + 1, by first | rfl | rw [hwu], ⟨rfl, HWU.out, rfl, by have := HN.out; omega, by have := HN.out; omega⟩, ⟨HU3.out⟩⟩
            case round =>
              obtain ⟨M, kk, rfl, HM, HV0⟩ := hrel
              obtain ⟨w4, hw4⟩ : ∃ w4 : World, w4 = wr := ⟨_, rfl⟩
              cases M with
              | nil =>
                have hk : kk = x.length := by
                  rcases HM.out.2.1 with h | h
                  · have := HM.out.2.2.2.1; omega
                  · have := HM.out.2.2.2.2; omega
                have HR2 : Aside0 (firstV (jnF T) (x.drop (n + 1)) = 5) := ⟨HM.out.2.2.1.symm⟩
                subst hk
                subst hw4
                have HV := HV0
                have hb := HB0.out
                rw [HR2.out, show okR 5 = false from rfl, Bool.and_false] at hb
                subst hb
                go_wp2
                go_ret
                exact ⟨rfl, HV.out⟩
              | cons a2 M =>
                obtain ⟨g, rfl⟩ : ∃ g, gk = g + 1 := ⟨M.length, HM.out.1.symm⟩
                obtain ⟨h2, h3, h4, h5⟩ : 0 ≤ kk ∧ kk < x.length ∧ rd x kk = a2 ∧ Way x 1 (kk + 1) M := HM.out.2.1
                obtain ⟨kr, rfl⟩ := Int.eq_ofNat_of_zero_le h2
                obtain ⟨ad2, hA2, hc2⟩ := HI.out.at_ kr h2 h3
                rw [Int.toNat_natCast, h4] at hc2
                cases hA2
                have HC2 := Aside0.mk hc2
                have hcw := up_cell HV0.out hc2
                have HA2 : Aside0 (-2147483648 ≤ a2 ∧ a2 ≤ 2147483647) := ⟨by rw [← h4]; exact rd_wf HWF.out kr⟩
                have h3n : kr < x.length := by omega
                have h3b : (kr == x.length) = false := beq_eq_false_iff_ne.mpr (by omega)
                have h3c : ((kr : Int) == (x.length : Int)) = false := beq_eq_false_iff_ne.mpr (by omega)
                have hwn : wrap64 ((kr : Int) + 1) = (kr : Int) + 1 := by have := HX.out; unfold wrap64; omega
                have hL2 : firstV (jnF T) (x.drop (n + 1)) = if jnF T a2 = 5 then firstV (jnF T) M else jnF T a2 := HM.out.2.2.1.symm
                have H5 := Aside0.mk h5
                have HN2 : Aside0 (M.length = g ∧ 0 ≤ (kr : Int) + 1 ∧ (kr : Int) + 1 ≤ x.length) := ⟨Nat.succ.inj HM.out.1, way_ok_up h3⟩
                obtain ⟨y2, hy2⟩ : ∃ y2, jnF T a2 = y2 := ⟨_, rfl⟩
                have HY2 := Aside0.mk hy2
                rw [hy2] at hL2
                clear h5 h4 hy2 HM hc2
                by_cases hy5 : y2 = 5
                · rw [if_pos hy5] at hL2
                  subst hy5
                  subst hw4
                  have HL2 := Aside0.mk hL2
                  clear hL2
                  go_wp2_with (first | (go_at_call 28; (with_reducible refine (HJ.out _ a2 5 HV0.out HA2.out.1 HA2.out.2 HY2.out).mono ?_); rintro e w4 ⟨rfl, hup4⟩; have HU4 := Aside0.mk (up_trans HV0.out hup4); clear hup4))
                  go_roundg g
                  case measure => have := HN2.out; omega
                  case rel => exact ⟨M, (kr : Int) + 1, by first | rfl | rw [hwn], ⟨HN2.out.1, H5.out, HL2.out.symm, HN2.out.2⟩, ⟨HU4.out⟩⟩
                · rw [if_neg hy5] at hL2
                  have d5 : (y2 == 5) = false := beq_eq_false_iff_ne.mpr hy5
                  have HR2 := Aside0.mk hL2
                  subst hw4
                  clear hL2 hy5
                  go_wp2_with (first | (go_at_call 28; (with_reducible refine (HJ.out _ a2 y2 HV0.out HA2.out.1 HA2.out.2 HY2.out).mono ?_); rintro e w4 ⟨rfl, hup4⟩; have HV := Aside0.mk (up_trans HV0.out hup4); clear hup4))
                  have hb := HB0.out
                  rw [HL.out, HR2.out] at hb
                  have hs0 : w4.drew.cell? (ad.add kl) = some (.int .i32 a1) ∧ w4.drew.cell? (ad.add kr) = some (.int .i32 a2) := ⟨up_cell HV.out HC1.out, up_cell HV.out HC2.out⟩
                  go_wp2
                  go_region_held3 (fun w' => w'.cell? (ad.add kl) = some (.int .i32 a1) ∧ w'.cell? (ad.add kr) = some (.int .i32 a2)) (first | exact hs0 | exact hs5 | exact hs6) (first | (go_at_call 28; (with_reducible refine (HJ.out _ a1 y1 (up_drew HV.out) HA1.out.1 HA1.out.2 HY1.out).mono ?_); rintro e w5 ⟨rfl, hup5⟩; have HW5 := Aside0.mk (up_trans (up_drew HV.out) hup5); have hs5 : w5.cell? (ad.add kl) = some (.int .i32 a1) ∧ w5.cell? (ad.add kr) = some (.int .i32 a2) := ⟨up_cell HW5.out HC1.out, up_cell HW5.out HC2.out⟩; clear hup5) | (go_at_call 28; (with_reducible refine (HJ.out _ a2 y2 (up_drew HV.out) HA2.out.1 HA2.out.2 HY2.out).mono ?_); rintro e w5 ⟨rfl, hup5⟩; have HW5 := Aside0.mk (up_trans (up_drew HV.out) hup5); have hs5 : w5.cell? (ad.add kl) = some (.int .i32 a1) ∧ w5.cell? (ad.add kr) = some (.int .i32 a2) := ⟨up_cell HW5.out HC1.out, up_cell HW5.out HC2.out⟩; clear hup5) | (go_at_call 28; (with_reducible refine (HJ.out _ a2 y2 HW5.out HA2.out.1 HA2.out.2 HY2.out).mono ?_); rintro e w6 ⟨rfl, hup6⟩; have HW6 := Aside0.mk (up_trans HW5.out hup6); have hs6 : w6.cell? (ad.add kl) = some (.int .i32 a1) ∧ w6.cell? (ad.add kr) = some (.int .i32 a2) := ⟨up_cell HW6.out HC1.out, up_cell HW6.out HC2.out⟩; clear hup6) | (go_at_call 28; (with_reducible refine (HJ.out _ a1 y1 HW5.out HA1.out.1 HA1.out.2 HY1.out).mono ?_); rintro e w6 ⟨rfl, hup6⟩; have HW6 := Aside0.mk (up_trans HW5.out hup6); have hs6 : w6.cell? (ad.add kl) = some (.int .i32 a1) ∧ w6.cell? (ad.add kr) = some (.int .i32 a2) := ⟨up_cell HW6.out HC1.out, up_cell HW6.out HC2.out⟩; clear hup6))
                  cases p2 : (y1 == 2) <;> cases p3 : (y1 == 3) <;> cases q1 : (y2 == 1) <;> cases q3 : (y2 == 3) <;> (simp only [okL, okR, p2, p3, q1, q3] at hb; subst hb; go_wp2; go_ret; exact ⟨rfl, HW6.out⟩)
    · rw [fits_join hout ha hl] at hb
      subst hb
      clear hI hx hwf hpl hout hn ha hl hn0
      go_enter Tryz.func25, Tryz.ntmps25
      go_wp2
      go_ret
      exact ⟨rfl, up_refl _⟩
  · obtain ⟨m, hm⟩ : ∃ m : Nat, (n : Int) - 1 = m := ⟨n - 1, by omega⟩
    have m1 : 0 ≤ (m : Int) := by omega
    have m2 : (m : Int) < (x.length : Int) := by omega
    obtain ⟨ad', hA', hcp⟩ := HI.out.at_ m m1 m2
    rw [Int.toNat_natCast] at hcp
    cases hA'
    obtain ⟨p, hp⟩ : ∃ p, rd x m = p := ⟨_, rfl⟩
    rw [hp] at hcp
    have hwm : wrap64 ((n : Int) - 1) = (m : Int) := by unfold wrap64; omega
    have hwi : IntKind.i64.wrap ((n : Int) - 1) = (m : Int) := by rw [IntKind.wrap_i64]; omega
    have HPR : Aside0 (-2147483648 ≤ p ∧ p ≤ 2147483647) := ⟨by rw [← hp]; exact rd_wf hwf m⟩
    obtain ⟨y, hy⟩ : ∃ y, clF T p = y := ⟨_, rfl⟩
    have HY := Aside0.mk hy
    have HCN := Aside0.mk hc
    have HM0 := Aside0.mk hm
    have g1 : decide (0 < (n : Int)) = true := decide_eq_true (by omega)
    have g2 : decide (0 < n) = true := decide_eq_true (by omega)
    by_cases hy9 : y = 9
    · have hl : 0 < (n : Int) ∧ clF T (rd x ((n : Int) - 1)) = 9 := ⟨by omega, by rw [hm, hp, hy]; exact hy9⟩
      rw [fits_led hout (by rw [ha]; exact hpl) hl] at hb
      subst hb
      have g9 : (y == 9) = true := beq_iff_eq.mpr hy9
      clear hI hx hwf hpl hout hn ha hl hy hp hn0 hm hy9 hwd
      rcases hq with rfl | rfl
      all_goals
        go_enter Tryz.func25, Tryz.ntmps25
        go_wp2_with (first | (go_at_call 35; (with_reducible refine (HCL.out _ p y (up_refl w) HPR.out.1 HPR.out.2 HY.out).mono ?_); rintro e w1 ⟨rfl, hup1⟩; have HC1 := Aside0.mk hup1; have hc1 := up_cell hup1 HCN.out; clear hup1))
        go_ret
        exact ⟨rfl, HC1.out⟩
    · have hl : ¬ (0 < (n : Int) ∧ clF T (rd x ((n : Int) - 1)) = 9) := fun hh => hy9 (by rw [← hy, ← hp, ← hm]; exact hh.2)
      have g9 : (y == 9) = false := beq_eq_false_iff_ne.mpr hy9
      rcases hq with rfl | rfl
      · rw [fits_non hn ha hl] at hb
        have HB0 := Aside0.mk hb
        clear hI hx hwf hpl hout hn ha hl hy hp hn0 hm hy9 hb hwd
        go_enter Tryz.func25, Tryz.ntmps25
        go_wp2_with (first | (go_at_call 35; (with_reducible refine (HCL.out _ p y (up_refl w) HPR.out.1 HPR.out.2 HY.out).mono ?_); rintro e w1 ⟨rfl, hup1⟩; have HC1 := Aside0.mk hup1; have hc1 := up_cell hup1 HCN.out; clear hup1))
        (try simp only [hwm])
        go_loopg [7] n (fun k v7 w' => ∃ (M : List Int) (kk : Int), v7 = .int .i64 kk ∧ Aside0 (M.length = k ∧ Way x (-1) kk M ∧ firstV (jnF T) M = firstV (jnF T) (x.take n).reverse ∧ -1 ≤ kk ∧ kk < x.length) ∧ Aside0 (Up w w'))
        case atStart => exact ⟨(x.take n).reverse, (n : Int) - 1, by first | rfl | rw [HM0.out], ⟨by have := HN.out; simp; omega, HWD.out, rfl, by omega, by have := HN.out; omega⟩, ⟨HC1.out⟩⟩
        case round =>
          obtain ⟨M, kk, rfl, HM, HV1⟩ := hrel
          cases M with
          | nil =>
            have hk : kk = -1 := by
              rcases HM.out.2.1 with h | h
              · have := HM.out.2.2.2.1; omega
              · have := HM.out.2.2.2.2; omega
            have HL : Aside0 (firstV (jnF T) (x.take n).reverse = 5) := ⟨HM.out.2.2.1.symm⟩
            subst hk
            obtain ⟨wl, hwl⟩ : ∃ wl : World, wl = wr := ⟨_, rfl⟩
            go_wp2
            (try simp only [hwu])
            go_loopg [8] (x.drop (n + 1)).length (fun k v8 w' => ∃ (M : List Int) (kk : Int), v8 = .int .i64 kk ∧ Aside0 (M.length = k ∧ Way x 1 kk M ∧ firstV (jnF T) M = firstV (jnF T) (x.drop (n + 1)) ∧ 0 ≤ kk ∧ kk ≤ x.length) ∧ Aside0 (Up w w'))
            case atStart => exact ⟨_, (n : Int) + 1, by first | rfl | rw [hwu], ⟨rfl, HWU.out, rfl, by have := HN.out; omega, by have := HN.out; omega⟩, ⟨HV1.out⟩⟩
            case round =>
              obtain ⟨M, kk, rfl, HM, HV0⟩ := hrel
              obtain ⟨w4, hw4⟩ : ∃ w4 : World, w4 = wr := ⟨_, rfl⟩
              cases M with
              | nil =>
                have hk : kk = x.length := by
                  rcases HM.out.2.1 with h | h
                  · have := HM.out.2.2.2.1; omega
                  · have := HM.out.2.2.2.2; omega
                have HR2 : Aside0 (firstV (jnF T) (x.drop (n + 1)) = 5) := ⟨HM.out.2.2.1.symm⟩
                subst hk
                subst hw4
                have HV := HV0
                have hb := HB0.out
                rw [HL.out] at hb
                have hb : false = b := hb
                subst hb
                go_wp2
                go_ret
                exact ⟨rfl, HV.out⟩
              | cons a2 M =>
                obtain ⟨g, rfl⟩ : ∃ g, gk = g + 1 := ⟨M.length, HM.out.1.symm⟩
                obtain ⟨h2, h3, h4, h5⟩ : 0 ≤ kk ∧ kk < x.length ∧ rd x kk = a2 ∧ Way x 1 (kk + 1) M := HM.out.2.1
                obtain ⟨kr, rfl⟩ := Int.eq_ofNat_of_zero_le h2
                obtain ⟨ad2, hA2, hc2⟩ := HI.out.at_ kr h2 h3
                rw [Int.toNat_natCast, h4] at hc2
                cases hA2
                have HC2 := Aside0.mk hc2
                have hcw := up_cell HV0.out hc2
                have HA2 : Aside0 (-2147483648 ≤ a2 ∧ a2 ≤ 2147483647) := ⟨by rw [← h4]; exact rd_wf HWF.out kr⟩
                have h3n : kr < x.length := by omega
                have h3b : (kr == x.length) = false := beq_eq_false_iff_ne.mpr (by omega)
                have h3c : ((kr : Int) == (x.length : Int)) = false := beq_eq_false_iff_ne.mpr (by omega)
                have hwn : wrap64 ((kr : Int) + 1) = (kr : Int) + 1 := by have := HX.out; unfold wrap64; omega
                have hL2 : firstV (jnF T) (x.drop (n + 1)) = if jnF T a2 = 5 then firstV (jnF T) M else jnF T a2 := HM.out.2.2.1.symm
                have H5 := Aside0.mk h5
                have HN2 : Aside0 (M.length = g ∧ 0 ≤ (kr : Int) + 1 ∧ (kr : Int) + 1 ≤ x.length) := ⟨Nat.succ.inj HM.out.1, way_ok_up h3⟩
                obtain ⟨y2, hy2⟩ : ∃ y2, jnF T a2 = y2 := ⟨_, rfl⟩
                have HY2 := Aside0.mk hy2
                rw [hy2] at hL2
                clear h5 h4 hy2 HM hc2
                by_cases hy5 : y2 = 5
                · rw [if_pos hy5] at hL2
                  subst hy5
                  subst hw4
                  have HL2 := Aside0.mk hL2
                  clear hL2
                  go_wp2_with (first | (go_at_call 28; (with_reducible refine (HJ.out _ a2 5 HV0.out HA2.out.1 HA2.out.2 HY2.out).mono ?_); rintro e w4 ⟨rfl, hup4⟩; have HU4 := Aside0.mk (up_trans HV0.out hup4); clear hup4))
                  go_roundg g
                  case measure => have := HN2.out; omega
                  case rel => exact ⟨M, (kr : Int) + 1, by first | rfl | rw [hwn], ⟨HN2.out.1, H5.out, HL2.out.symm, HN2.out.2⟩, ⟨HU4.out⟩⟩
                · rw [if_neg hy5] at hL2
                  have d5 : (y2 == 5) = false := beq_eq_false_iff_ne.mpr hy5
                  have HR2 := Aside0.mk hL2
                  subst hw4
                  clear hL2 hy5
                  go_wp2_with (first | (go_at_call 28; (with_reducible refine (HJ.out _ a2 y2 HV0.out HA2.out.1 HA2.out.2 HY2.out).mono ?_); rintro e w4 ⟨rfl, hup4⟩; have HV := Aside0.mk (up_trans HV0.out hup4); clear hup4))
                  have hb := HB0.out
                  rw [HL.out] at hb
                  have hb : false = b := hb
                  subst hb
                  go_wp2
                  go_ret
                  exact ⟨rfl, HV.out⟩
          | cons a1 M =>
            obtain ⟨g, rfl⟩ : ∃ g, gk = g + 1 := ⟨M.length, HM.out.1.symm⟩
            obtain ⟨h2, h3, h4, h5⟩ : 0 ≤ kk ∧ kk < x.length ∧ rd x kk = a1 ∧ Way x (-1) (kk + -1) M := HM.out.2.1
            obtain ⟨kl, rfl⟩ := Int.eq_ofNat_of_zero_le h2
            obtain ⟨ad1, hA1, hc1⟩ := HI.out.at_ kl h2 h3
            rw [Int.toNat_natCast, h4] at hc1
            cases hA1
            have HC1 := Aside0.mk hc1
            have hcv := up_cell HV1.out hc1
            have HA1 : Aside0 (-2147483648 ≤ a1 ∧ a1 ≤ 2147483647) := ⟨by rw [← h4]; exact rd_wf HWF.out kl⟩
            have hwn1 : wrap64 ((kl : Int) - 1) = (kl : Int) - 1 := by have := HX.out; unfold wrap64; omega
            have hL1 : firstV (jnF T) (x.take n).reverse = if jnF T a1 = 5 then firstV (jnF T) M else jnF T a1 := HM.out.2.2.1.symm
            have H51 : Aside0 (Way x (-1) ((kl : Int) - 1) M) := ⟨h5⟩
            have HN1 : Aside0 (M.length = g ∧ -1 ≤ (kl : Int) - 1 ∧ (kl : Int) - 1 < x.length) := ⟨Nat.succ.inj HM.out.1, way_ok_down h3⟩
            obtain ⟨y1, hy1⟩ : ∃ y1, jnF T a1 = y1 := ⟨_, rfl⟩
            have HY1 := Aside0.mk hy1
            rw [hy1] at hL1
            clear h5 h4 hy1 HM hc1
            by_cases hy15 : y1 = 5
            · rw [if_pos hy15] at hL1
              subst hy15
              have HL1 := Aside0.mk hL1
              clear hL1
              go_wp2_with (first | (go_at_call 28; (with_reducible refine (HJ.out _ a1 5 HV1.out HA1.out.1 HA1.out.2 HY1.out).mono ?_); rintro e w3 ⟨rfl, hup3⟩; have HU3 := Aside0.mk (up_trans HV1.out hup3); clear hup3))
              go_roundg g
              case measure => have := HN1.out; omega
              case rel => exact ⟨M, (kl : Int) - 1, by first | rfl | rw [hwn1], ⟨HN1.out.1, H51.out, HL1.out.symm, HN1.out.2⟩, ⟨HU3.out⟩⟩
            · rw [if_neg hy15] at hL1
              have d15 : (y1 == 5) = false := beq_eq_false_iff_ne.mpr hy15
              have HL := Aside0.mk hL1
              clear hL1 hy15
              go_wp2_with (first | (go_at_call 28; (with_reducible refine (HJ.out _ a1 y1 HV1.out HA1.out.1 HA1.out.2 HY1.out).mono ?_); rintro e w3 ⟨rfl, hup3⟩; have HU3 := Aside0.mk (up_trans HV1.out hup3); clear hup3))
              obtain ⟨wl, hwl⟩ : ∃ wl : World, wl = w3 := ⟨_, rfl⟩
              (try simp only [hwu])
              go_loopg [8] (x.drop (n + 1)).length (fun k v8 w' => ∃ (M : List Int) (kk : Int), v8 = .int .i64 kk ∧ Aside0 (M.length = k ∧ Way x 1 kk M ∧ firstV (jnF T) M = firstV (jnF T) (x.drop (n + 1)) ∧ 0 ≤ kk ∧ kk ≤ x.length) ∧ Aside0 (Up w w'))
              case atStart => exact ⟨_, (n : Int) + 1, by first | rfl | rw [hwu], ⟨rfl, HWU.out, rfl, by have := HN.out; omega, by have := HN.out; omega⟩, ⟨HU3.out⟩⟩
              case round =>
                obtain ⟨M, kk, rfl, HM, HV0⟩ := hrel
                obtain ⟨w4, hw4⟩ : ∃ w4 : World, w4 = wr := ⟨_, rfl⟩
                cases M with
                | nil =>
                  have hk : kk = x.length := by
                    rcases HM.out.2.1 with h | h
                    · have := HM.out.2.2.2.1; omega
                    · have := HM.out.2.2.2.2; omega
                  have HR2 : Aside0 (firstV (jnF T) (x.drop (n + 1)) = 5) := ⟨HM.out.2.2.1.symm⟩
                  subst hk
                  subst hw4
                  have HV := HV0
                  have hb := HB0.out
                  rw [HR2.out, show okR 5 = false from rfl, Bool.and_false] at hb
                  subst hb
                  go_wp2
                  go_ret
                  exact ⟨rfl, HV.out⟩
                | cons a2 M =>
                  obtain ⟨g, rfl⟩ : ∃ g, gk = g + 1 := ⟨M.length, HM.out.1.symm⟩
                  obtain ⟨h2, h3, h4, h5⟩ : 0 ≤ kk ∧ kk < x.length ∧ rd x kk = a2 ∧ Way x 1 (kk + 1) M := HM.out.2.1
                  obtain ⟨kr, rfl⟩ := Int.eq_ofNat_of_zero_le h2
                  obtain ⟨ad2, hA2, hc2⟩ := HI.out.at_ kr h2 h3
                  rw [Int.toNat_natCast, h4] at hc2
                  cases hA2
                  have HC2 := Aside0.mk hc2
                  have hcw := up_cell HV0.out hc2
                  have HA2 : Aside0 (-2147483648 ≤ a2 ∧ a2 ≤ 2147483647) := ⟨by rw [← h4]; exact rd_wf HWF.out kr⟩
                  have h3n : kr < x.length := by omega
                  have h3b : (kr == x.length) = false := beq_eq_false_iff_ne.mpr (by omega)
                  have h3c : ((kr : Int) == (x.length : Int)) = false := beq_eq_false_iff_ne.mpr (by omega)
                  have hwn : wrap64 ((kr : Int) + 1) = (kr : Int) + 1 := by have := HX.out; unfold wrap64; omega
                  have hL2 : firstV (jnF T) (x.drop (n + 1)) = if jnF T a2 = 5 then firstV (jnF T) M else jnF T a2 := HM.out.2.2.1.symm
                  have H5 := Aside0.mk h5
                  have HN2 : Aside0 (M.length = g ∧ 0 ≤ (kr : Int) + 1 ∧ (kr : Int) + 1 ≤ x.length) := ⟨Nat.succ.inj HM.out.1, way_ok_up h3⟩
                  obtain ⟨y2, hy2⟩ : ∃ y2, jnF T a2 = y2 := ⟨_, rfl⟩
                  have HY2 := Aside0.mk hy2
                  rw [hy2] at hL2
                  clear h5 h4 hy2 HM hc2
                  by_cases hy5 : y2 = 5
                  · rw [if_pos hy5] at hL2
                    subst hy5
                    subst hw4
                    have HL2 := Aside0.mk hL2
                    clear hL2
                    go_wp2_with (first | (go_at_call 28; (with_reducible refine (HJ.out _ a2 5 HV0.out HA2.out.1 HA2.out.2 HY2.out).mono ?_); rintro e w4 ⟨rfl, hup4⟩; have HU4 := Aside0.mk (up_trans HV0.out hup4); clear hup4))
                    go_roundg g
                    case measure => have := HN2.out; omega
                    case rel => exact ⟨M, (kr : Int) + 1, by first | rfl | rw [hwn], ⟨HN2.out.1, H5.out, HL2.out.symm, HN2.out.2⟩, ⟨HU4.out⟩⟩
                  · rw [if_neg hy5] at hL2
                    have d5 : (y2 == 5) = false := beq_eq_false_iff_ne.mpr hy5
                    have HR2 := Aside0.mk hL2
                    subst hw4
                    clear hL2 hy5
                    go_wp2_with (first | (go_at_call 28; (with_reducible refine (HJ.out _ a2 y2 HV0.out HA2.out.1 HA2.out.2 HY2.out).mono ?_); rintro e w4 ⟨rfl, hup4⟩; have HV := Aside0.mk (up_trans HV0.out hup4); clear hup4))
                    have hb := HB0.out
                    rw [HL.out, HR2.out] at hb
                    have hs0 : w4.drew.cell? (ad.add kl) = some (.int .i32 a1) ∧ w4.drew.cell? (ad.add kr) = some (.int .i32 a2) := ⟨up_cell HV.out HC1.out, up_cell HV.out HC2.out⟩
                    go_wp2
                    go_region_held3 (fun w' => w'.cell? (ad.add kl) = some (.int .i32 a1) ∧ w'.cell? (ad.add kr) = some (.int .i32 a2)) (first | exact hs0 | exact hs5 | exact hs6) (first | (go_at_call 28; (with_reducible refine (HJ.out _ a1 y1 (up_drew HV.out) HA1.out.1 HA1.out.2 HY1.out).mono ?_); rintro e w5 ⟨rfl, hup5⟩; have HW5 := Aside0.mk (up_trans (up_drew HV.out) hup5); have hs5 : w5.cell? (ad.add kl) = some (.int .i32 a1) ∧ w5.cell? (ad.add kr) = some (.int .i32 a2) := ⟨up_cell HW5.out HC1.out, up_cell HW5.out HC2.out⟩; clear hup5) | (go_at_call 28; (with_reducible refine (HJ.out _ a2 y2 (up_drew HV.out) HA2.out.1 HA2.out.2 HY2.out).mono ?_); rintro e w5 ⟨rfl, hup5⟩; have HW5 := Aside0.mk (up_trans (up_drew HV.out) hup5); have hs5 : w5.cell? (ad.add kl) = some (.int .i32 a1) ∧ w5.cell? (ad.add kr) = some (.int .i32 a2) := ⟨up_cell HW5.out HC1.out, up_cell HW5.out HC2.out⟩; clear hup5) | (go_at_call 28; (with_reducible refine (HJ.out _ a2 y2 HW5.out HA2.out.1 HA2.out.2 HY2.out).mono ?_); rintro e w6 ⟨rfl, hup6⟩; have HW6 := Aside0.mk (up_trans HW5.out hup6); have hs6 : w6.cell? (ad.add kl) = some (.int .i32 a1) ∧ w6.cell? (ad.add kr) = some (.int .i32 a2) := ⟨up_cell HW6.out HC1.out, up_cell HW6.out HC2.out⟩; clear hup6) | (go_at_call 28; (with_reducible refine (HJ.out _ a1 y1 HW5.out HA1.out.1 HA1.out.2 HY1.out).mono ?_); rintro e w6 ⟨rfl, hup6⟩; have HW6 := Aside0.mk (up_trans HW5.out hup6); have hs6 : w6.cell? (ad.add kl) = some (.int .i32 a1) ∧ w6.cell? (ad.add kr) = some (.int .i32 a2) := ⟨up_cell HW6.out HC1.out, up_cell HW6.out HC2.out⟩; clear hup6))
                    cases p2 : (y1 == 2) <;> cases p3 : (y1 == 3) <;> cases q1 : (y2 == 1) <;> cases q3 : (y2 == 3) <;> (simp only [okL, okR, p2, p3, q1, q3] at hb; subst hb; go_wp2; go_ret; exact ⟨rfl, HW6.out⟩)
      · rw [fits_join hout ha hl] at hb
        subst hb
        clear hI hx hwf hpl hout hn ha hl hy hp hn0 hm hy9 hwd
        go_enter Tryz.func25, Tryz.ntmps25
        go_wp2_with (first | (go_at_call 35; (with_reducible refine (HCL.out _ p y (up_refl w) HPR.out.1 HPR.out.2 HY.out).mono ?_); rintro e w1 ⟨rfl, hup1⟩; have HC1 := Aside0.mk hup1; have hc1 := up_cell hup1 HCN.out; clear hup1))
        go_ret
        exact ⟨rfl, HC1.out⟩
end Go.Proofs.YtfoldfaeelggoaaGreat.M
