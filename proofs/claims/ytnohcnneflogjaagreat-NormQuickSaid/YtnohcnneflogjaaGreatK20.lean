/- What is wrong with a record, walked: the program's. -/
import Derived.Test.YtnohcnneflogjaaGreatK18
import Derived.Test.YtnohcnneflogjaaGreatK19
set_option maxHeartbeats 16000000
set_option maxRecDepth 100000
set_option linter.unusedVariables false
set_option linter.unusedSimpArgs false
namespace Go.Proofs.YtnohcnneflogjaaGreat.M
open Go.RowKit
theorem mwrong_2 {p : Prop} (h : p := by
 go_enter Tryz.func158, Tryz.ntmps158
 go_wp2_with (first | (go_at_call 167; (with_reducible refine (Family_calls x.kind _).mono ?_); rintro e w1 ⟨rfl, hb1⟩; replace RB := RB.keep hb1; have RC := RB; obtain ⟨k0, k1, k2, k3, k4, k5, k6, k7⟩ := RC; replace HU := up_trans HU hb1))
 go_ret
 exact ⟨rfl, HU⟩) : p := h
theorem wrong_other (A : Option Addr) (c : Nat) (T : List Rec) (x : Rec) (A' : Option Addr) (c' : Nat) (r : Int) (w : World) (hA : Asked w A T) (hI : Ints .i32 w A' x.to) (hRx : Right x) (hf2 : fam x.kind ≠ 2) (hf3 : fam x.kind ≠ 3) (hr : r = 0) :
 Calls Tryz.prog 158 #[.slice A T.length c, recV x A' c'] w fun e w' => e = .returned (.int .i64 r) ∧ Up w w' := by
 subst hr
 have f2 : (fam x.kind == 2) = false := bqf hf2
 have f2' : (fam x.kind != 2) = true := bne_iff_ne.mpr hf2
 have f3 : (fam x.kind == 3) = false := bqf hf3
 have f3' : (fam x.kind != 3) = true := bne_iff_ne.mpr hf3
 clear hf2 hf3
 have hu96 := Tryz.underlying113
 have hlow := hRx.low
 have p3 : 0 ≤ x.lo := hlow.1
 have p4 : x.lo ≤ 1114111 := by omega
 have RL : Az (-2147483648 ≤ x.lo ∧ x.lo ≤ 2147483647) := ⟨by omega⟩
 have HA := Az.mk hA
 have HI := Az.mk hI
 have HR := Az.mk hRx
 have RB := recBox_new w x A' c'
 have HU := up_alloc (up_refl w) (recO x A' c')
 clear hA hI hRx hlow
 exact mwrong_2
theorem mwrong_1 {p : Prop} (h : p := by
 subst hr
 clear hff hk hlo hh
 go_enter Tryz.func158, Tryz.ntmps158
 go_wp2_with (first | (go_at_call 167; (with_reducible refine (Family_calls x.kind _).mono ?_); rintro e w1 ⟨rfl, hb1⟩; replace RB := RB.keep hb1; have RC := RB; obtain ⟨k0, k1, k2, k3, k4, k5, k6, k7⟩ := RC; replace HU := up_trans HU hb1) | (go_at_call 184; (with_reducible refine (hangul_calls x A' c' _ _ (HI.out.up HU) HR.out HH.out).mono ?_); rintro e w2 ⟨rfl, hb2⟩; replace RB := RB.keep hb2; have RC := RB; obtain ⟨k0, k1, k2, k3, k4, k5, k6, k7⟩ := RC; replace HU := up_trans HU hb2))
 go_ret
 exact ⟨rfl, HU⟩) : p := h
theorem wrong_2 (A : Option Addr) (c : Nat) (T : List Rec) (x : Rec) (A' : Option Addr) (c' : Nat) (r : Int) (w : World) (hA : Asked w A T) (hI : Ints .i32 w A' x.to) (hRx : Right x) (hk : fam x.kind = 2) (hr : wrongE T x = r) :
 Calls Tryz.prog 158 #[.slice A T.length c, recV x A' c'] w fun e w' => e = .returned (.int .i64 r) ∧ Up w w' := by
 have hu96 := Tryz.underlying113
 have hlow := hRx.low
 have p3 : 0 ≤ x.lo := hlow.1
 have p4 : x.lo ≤ 1114111 := by omega
 have RL : Az (-2147483648 ≤ x.lo ∧ x.lo ≤ 2147483647) := ⟨by omega⟩
 have HA := Az.mk hA
 have HI := Az.mk hI
 have HR := Az.mk hRx
 have RB := recBox_new w x A' c'
 have HU := up_alloc (up_refl w) (recO x A' c')
 clear hA hI hRx hlow
 have f2 : (fam x.kind == 2) = true := by rw [hk]; rfl
 have f2' : (fam x.kind != 2) = false := by rw [hk]; rfl
 have f3 : (fam x.kind == 3) = false := by rw [hk]; rfl
 have f3' : (fam x.kind != 3) = true := by rw [hk]; rfl
 have hff : fam x.kind = 2 ∨ fam x.kind = 3 := by rw [hk]; decide
 by_cases hlo : x.lo < 128
 ·have b1 : decide (x.lo < 128) = true := dTz hlo
  rw [wrongE_base (T := T) hff hlo] at hr
  subst hr
  clear hff hk hlo
  exact mwrong_2
 have b1 : decide (x.lo < 128) = false := dFz hlo
 cases hh : hangulB x with
 | true =>
   have HH := Az.mk hh
   rw [wrongE_hangul (T := T) hff hlo hh] at hr
   exact mwrong_1
 | false =>
   have HH := Az.mk hh
   rw [wrongE_class (T := T) hk hlo hh] at hr
   exact mwrong_1
theorem wrong_3 (A : Option Addr) (c : Nat) (T : List Rec) (x : Rec) (A' : Option Addr) (c' : Nat) (r : Int) (w : World) (hA : Asked w A T) (hI : Ints .i32 w A' x.to) (hRx : Right x) (hk : fam x.kind = 3) (hr : wrongE T x = r) :
 Calls Tryz.prog 158 #[.slice A T.length c, recV x A' c'] w fun e w' => e = .returned (.int .i64 r) ∧ Up w w' := by
 have hu96 := Tryz.underlying113
 have hlow := hRx.low
 have p3 : 0 ≤ x.lo := hlow.1
 have p4 : x.lo ≤ 1114111 := by omega
 have RL : Az (-2147483648 ≤ x.lo ∧ x.lo ≤ 2147483647) := ⟨by omega⟩
 have HA := Az.mk hA
 have HI := Az.mk hI
 have HR := Az.mk hRx
 have RB := recBox_new w x A' c'
 have HU := up_alloc (up_refl w) (recO x A' c')
 clear hA hI hRx hlow
 have f2 : (fam x.kind == 2) = false := by rw [hk]; rfl
 have f2' : (fam x.kind != 2) = true := by rw [hk]; rfl
 have f3 : (fam x.kind == 3) = true := by rw [hk]; rfl
 have f3' : (fam x.kind != 3) = false := by rw [hk]; rfl
 have hff : fam x.kind = 2 ∨ fam x.kind = 3 := by rw [hk]; decide
 by_cases hlo : x.lo < 128
 ·have b1 : decide (x.lo < 128) = true := dTz hlo
  rw [wrongE_base (T := T) hff hlo] at hr
  subst hr
  clear hff hk hlo
  exact mwrong_2
 have b1 : decide (x.lo < 128) = false := dFz hlo
 cases hh : hangulB x with
 | true =>
   have HH := Az.mk hh
   rw [wrongE_hangul (T := T) hff hlo hh] at hr
   exact mwrong_1
 | false =>
   have HH := Az.mk hh
   cases hfu : fullF T x.lo with
   | error n =>
     have HFU := Az.mk hfu
     have hn0 : n ≠ 0 := walkF_err hfu
     rw [wrongE_err (T := T) hk hlo hh hfu] at hr
     subst hr
     have t1 : (n == 0) = false := bqf hn0
     have t2 : (n != 0) = true := bne_iff_ne.mpr hn0
     clear hfu hn0 hff hk hlo hh
     go_enter Tryz.func158, Tryz.ntmps158
     go_wp2_with (first | (go_at_call 167; (with_reducible refine (Family_calls x.kind _).mono ?_); rintro e w1 ⟨rfl, hb1⟩; replace RB := RB.keep hb1; have RC := RB; obtain ⟨k0, k1, k2, k3, k4, k5, k6, k7⟩ := RC; replace HU := up_trans HU hb1) | (go_at_call 184; (with_reducible refine (hangul_calls x A' c' _ _ (HI.out.up HU) HR.out HH.out).mono ?_); rintro e w2 ⟨rfl, hb2⟩; replace RB := RB.keep hb2; have RC := RB; obtain ⟨k0, k1, k2, k3, k4, k5, k6, k7⟩ := RC; replace HU := up_trans HU hb2) | (go_at_call 161; have hfc := Full_calls A c T x.lo _ (HA.out.up HU).tab HA.out.right HA.out.wf HA.out.len RL.out.1 RL.out.2; rw [HFU.out] at hfc; (with_reducible refine (hfc).mono ?_); rintro e w11 ⟨rfl, hb11, hn11⟩; clear hfc; replace RB := RB.keep hb11; have RC := RB; obtain ⟨k0, k1, k2, k3, k4, k5, k6, k7⟩ := RC; replace HU := up_trans HU hb11))
     go_ret
     exact ⟨rfl, HU⟩
   | ok l =>
     have HFU := Az.mk hfu
     have HXR : Az (InI32 l) := ⟨fullF_range HA.out.wf RL.out.1 RL.out.2 hfu⟩
     have hll : l.length ≤ 32 := fullF_len hfu
     have HW : Az ((fallsB T l = true → r = 75) ∧ (fallsB T l = false → r = if x.kind = 7 ∧ pairsB T x = false then 74 else 0)) := ⟨by
      rw [wrongE_three hk hlo hh, hfu] at hr
      constructor
      ·intro h
       rw [← hr]
       show (if fallsB T l = true then _ else _) = _
       rw [if_pos h]
      ·intro h
       rw [← hr]
       show (if fallsB T l = true then _ else _) = _
       rw [if_neg (by rw [h]; decide)]⟩
     obtain ⟨fb, hfb⟩ : ∃ fb, fallsB T l = fb := ⟨_, rfl⟩
     rw [hfb] at HW
     rw [fallsB_eq] at hfb
     have HFB := Az.mk hfb
     clear hfu hfb hff hk hlo hh hr
     go_enter Tryz.func158, Tryz.ntmps158
     go_wp2_with (first | (go_at_call 167; (with_reducible refine (Family_calls x.kind _).mono ?_); rintro e w1 ⟨rfl, hb1⟩; replace RB := RB.keep hb1; have RC := RB; obtain ⟨k0, k1, k2, k3, k4, k5, k6, k7⟩ := RC; replace HU := up_trans HU hb1) | (go_at_call 184; (with_reducible refine (hangul_calls x A' c' _ _ (HI.out.up HU) HR.out HH.out).mono ?_); rintro e w2 ⟨rfl, hb2⟩; replace RB := RB.keep hb2; have RC := RB; obtain ⟨k0, k1, k2, k3, k4, k5, k6, k7⟩ := RC; replace HU := up_trans HU hb2) | (go_at_call 161; have hfc := Full_calls A c T x.lo _ (HA.out.up HU).tab HA.out.right HA.out.wf HA.out.len RL.out.1 RL.out.2; rw [HFU.out] at hfc; (with_reducible refine (hfc).mono ?_); rintro e w11 ⟨v11, rfl, hown11, hb11, hl11⟩; clear hfc; replace RB := RB.keep hb11; have RC := RB; obtain ⟨k0, k1, k2, k3, k4, k5, k6, k7⟩ := RC; replace HU := up_trans HU hb11; obtain ⟨Ax, cx, rfl, hAx, _⟩ := own_ints hown11; have HX := Az.mk hAx; clear hAx hown11 hl11))
     have HU0 := Az.mk HU
     have RB0 := Az.mk RB
     have HA2 := Az.mk (HA.out.up HU)
     clear k0 k1 k2 k3 k4 k5 k6 k7 HU RB
     try clear hb1 hb2 hb11
     go_loopg [8] (l.length - 1) (fun k v8 w' => ∃ i : Nat, v8 = .int .i64 i ∧ Az (1 ≤ i ∧ l.length - i = k ∧ (List.range' i k).any (fallAt T l) = fb) ∧ Az (Up w11 w'))
     case atStart => exact ⟨1, rfl, ⟨Nat.le_refl _, rfl, HFB.out⟩, ⟨up_refl _⟩⟩
     case round =>
      obtain ⟨i, rfl, HI2, HB⟩ := hrel
      have hi := HI2.out.1
      have hi2 := HI2.out.2.1
      cases gk with
      | zero =>
        have hlt : decide ((i : Int) < (l.length : Int)) = false := dFz (by omega)
        have hln : decide (i < l.length) = false := dFz (by omega)
        have hr : false = fb := HI2.out.2.2
        subst hr
        have hres := HW.out.2 rfl
        obtain ⟨k0, k1, k2, k3, k4, k5, k6, k7⟩ := RB0.out.keep HB.out
        clear hi2 hi
        by_cases hk7 : x.kind = 7
        ·have HK := Az.mk hk7
         have e7 : (x.kind == 7) = true := beq_iff_eq.mpr hk7
         cases hp : pairsB T x with
         | true =>
           have HP := Az.mk hp
           rw [if_neg (by rw [hp]; simp)] at hres
           subst hres
           clear hk7 hp HW
           go_wp2_with (first | (go_at_call 186; (with_reducible refine (pairs_calls A c T x A' c' _ _ (HA2.out.up HB.out) (HI.out.up (up_trans HU0.out HB.out)) HR.out HK.out HP.out).mono ?_); rintro e w3 ⟨rfl, hb3⟩))
           go_ret
           exact ⟨rfl, up_trans HU0.out (up_trans HB.out hb3)⟩
         | false =>
           have HP := Az.mk hp
           rw [if_pos ⟨hk7, hp⟩] at hres
           subst hres
           clear hk7 hp HW
           go_wp2_with (first | (go_at_call 186; (with_reducible refine (pairs_calls A c T x A' c' _ _ (HA2.out.up HB.out) (HI.out.up (up_trans HU0.out HB.out)) HR.out HK.out HP.out).mono ?_); rintro e w3 ⟨rfl, hb3⟩))
           go_ret
           exact ⟨rfl, up_trans HU0.out (up_trans HB.out hb3)⟩
        ·have e7 : (x.kind == 7) = false := bqf hk7
         rw [if_neg (fun h => hk7 h.1)] at hres
         subst hres
         clear hk7 HW
         go_wp2
         go_ret
         exact ⟨rfl, up_trans HU0.out HB.out⟩
      | succ k =>
        have hlt : decide ((i : Int) < (l.length : Int)) = true := dTz (by omega)
        have hln : decide (i < l.length) = true := dTz (by omega)
        have p1 : 0 ≤ (i : Int) := by omega
        have p2 : (i : Int) < (l.length : Int) := by omega
        obtain ⟨ad, hAx, hcell⟩ := Ints.at_ HX.out i p1 p2
        replace hcell := up_cell HB.out hcell
        rw [Int.toNat_natCast] at hcell
        have p5 : 0 ≤ ((i - 1 : Nat) : Int) := by omega
        have p6 : ((i - 1 : Nat) : Int) < (l.length : Int) := by omega
        obtain ⟨ad', hAx', hcell'⟩ := Ints.at_ HX.out ((i - 1 : Nat) : Int) p5 p6
        replace hcell' := up_cell HB.out hcell'
        rw [Int.toNat_natCast] at hcell'
        rw [hAx] at hAx'
        cases hAx'
        have r1 := HXR.out.rd i (by omega)
        have r2 := HXR.out.rd (i - 1) (by omega)
        have hr := HI2.out.2.2
        rw [any_range] at hr
        have hfa : fallAt T l i = (decide (classF T (rd l (i : Int)) ≠ 0) && decide (classF T (rd l ((i - 1 : Nat) : Int)) > classF T (rd l (i : Int)))) := rfl
        obtain ⟨n, hn⟩ : ∃ n, classF T (rd l (i : Int)) = n := ⟨_, rfl⟩
        obtain ⟨m, hm⟩ : ∃ m, classF T (rd l ((i - 1 : Nat) : Int)) = m := ⟨_, rfl⟩
        rw [hn, hm] at hfa
        have HN := Az.mk hn
        have HM := Az.mk hm
        have q1 : 0 ≤ (i : Int) - 1 := by omega
        have q2 : (i : Int) - 1 < (l.length : Int) := by omega
        have q3 : ((i : Int) - 1).toNat = i - 1 := by omega
        subst hAx
        have R1 := Az.mk r1
        have R2 := Az.mk r2
        clear hn hm hi2 r1 r2
        by_cases h0 : n = 0
        ·have t1 : (n == 0) = true := beq_iff_eq.mpr h0
         have t2 : (n != 0) = false := by rw [bne, t1]; rfl
         have hfa' : fallAt T l i = false := by rw [hfa, h0]; rfl
         rw [hfa', Bool.false_or] at hr
         have HR2 := Az.mk hr
         clear h0 hfa hfa' hr
         go_wp2_with (first | (go_at_call 185; (with_reducible refine (Class_calls A c T (rd l (i : Int)) _ (HA2.out.up HB.out).tab HA2.out.right HA2.out.wf HA2.out.len R1.out.1 R1.out.2 n HN.out).mono ?_); rintro e w1 ⟨rfl, hb1⟩))
         go_roundg k
         case measure => have := HI2.out.2.1; omega
         case rel => exact ⟨i + 1, rfl, ⟨by omega, by have := HI2.out.2.1; omega, HR2.out⟩, ⟨up_trans HB.out hb1⟩⟩
        ·have t1 : (n == 0) = false := bqf h0
         have t2 : (n != 0) = true := bne_iff_ne.mpr h0
         by_cases hgt : n < m
         ·have t3 : decide (n < m) = true := dTz hgt
          have hfa' : fallAt T l i = true := by rw [hfa, dTz h0, dTz (show m > n from hgt)]; rfl
          rw [hfa', Bool.true_or] at hr
          subst hr
          have hres := HW.out.1 rfl
          subst hres
          clear h0 hfa hfa' hgt HW
          go_wp2_with (first | (go_at_call 185; (with_reducible refine (Class_calls A c T (rd l (i : Int)) _ (HA2.out.up HB.out).tab HA2.out.right HA2.out.wf HA2.out.len R1.out.1 R1.out.2 n HN.out).mono ?_); rintro e w1 ⟨rfl, hb1⟩; replace hcell' := up_cell hb1 hcell'; have HB1 := Az.mk (up_trans HB.out hb1)) | (go_at_call 185; (with_reducible refine (Class_calls A c T (rd l ((i - 1 : Nat) : Int)) _ (HA2.out.up HB1.out).tab HA2.out.right HA2.out.wf HA2.out.len R2.out.1 R2.out.2 m HM.out).mono ?_); rintro e w2 ⟨rfl, hb2⟩))
          go_ret
          exact ⟨rfl, up_trans HU0.out (up_trans HB1.out hb2)⟩
         ·have t3 : decide (n < m) = false := dFz hgt
          have hfa' : fallAt T l i = false := by rw [hfa, dFz (show ¬ m > n from hgt), Bool.and_false]
          rw [hfa', Bool.false_or] at hr
          have HR2 := Az.mk hr
          clear h0 hfa hfa' hgt hr
          go_wp2_with (first | (go_at_call 185; (with_reducible refine (Class_calls A c T (rd l (i : Int)) _ (HA2.out.up HB.out).tab HA2.out.right HA2.out.wf HA2.out.len R1.out.1 R1.out.2 n HN.out).mono ?_); rintro e w1 ⟨rfl, hb1⟩; replace hcell' := up_cell hb1 hcell'; have HB1 := Az.mk (up_trans HB.out hb1)) | (go_at_call 185; (with_reducible refine (Class_calls A c T (rd l ((i - 1 : Nat) : Int)) _ (HA2.out.up HB1.out).tab HA2.out.right HA2.out.wf HA2.out.len R2.out.1 R2.out.2 m HM.out).mono ?_); rintro e w2 ⟨rfl, hb2⟩))
          go_roundg k
          case measure => have := HI2.out.2.1; omega
          case rel => exact ⟨i + 1, rfl, ⟨by omega, by have := HI2.out.2.1; omega, HR2.out⟩, ⟨up_trans HB1.out hb2⟩⟩
theorem wrong_calls (A : Option Addr) (c : Nat) (T : List Rec) (x : Rec) (A' : Option Addr) (c' : Nat) (r : Int) (w : World) (hA : Asked w A T) (hI : Ints .i32 w A' x.to) (hRx : Right x) (hr : wrongE T x = r) :
 Calls Tryz.prog 158 #[.slice A T.length c, recV x A' c'] w fun e w' => e = .returned (.int .i64 r) ∧ Up w w' := by
 by_cases h2 : fam x.kind = 2
 ·exact wrong_2 A c T x A' c' r w hA hI hRx h2 hr
 by_cases h3 : fam x.kind = 3
 ·exact wrong_3 A c T x A' c' r w hA hI hRx h3 hr
 ·exact wrong_other A c T x A' c' r w hA hI hRx h2 h3 (by rw [← hr]; exact wrongE_other h2 h3)
end Go.Proofs.YtnohcnneflogjaaGreat.M
