/- What is wrong with a list of records, walked: the document's. -/
import Derived.Test.YtnohcnneflogjaaGreatK06
import Derived.Test.YtnohcnneflogjaaGreatK01
import Derived.Test.YtnohcnneflogjaaGreatK22
import Derived.StillTailTactics
import Derived.Test.YtnohcnneflogjaaGreatK18
set_option maxHeartbeats 16000000
set_option maxRecDepth 100000
set_option linter.unusedVariables false
set_option linter.unusedSimpArgs false
namespace Go.Proofs.YtnohcnneflogjaaGreat.M
open Go.RowKit
theorem RCheck6_calls (A : Option Addr) (c : Nat) (T : List Rec) (n : Nat) (e : Int) (w : World) (hT : Table w A T) (hW : ∀ x ∈ T, x.Wf) (h : tableE T = (n, e)) :
 Calls Tryz.prog 114 #[.slice A T.length c] w fun r w' => r = .returned (.tuple #[.int .i64 n, .int .i64 e]) ∧ Up w w' := by
 have hu96 := Tryz.underlying113
 have HT := Az.mk hT
 have HW := Az.mk hW
 have HE := Az.mk h
 clear hT hW h
 by_cases hl : 4096 < T.length
 ·have d1 : decide (4096 < (T.length : Int)) = true := dTz (by omega)
  have h1 := HE.out
  unfold tableE at h1
  rw [if_pos hl] at h1
  simp only [Prod.mk.injEq] at h1
  obtain ⟨h1, h2⟩ := h1
  subst h1
  subst h2
  clear HE hl
  go_enter Tryz.func114, Tryz.ntmps114
  go_wp2
  go_ret2
  exact ⟨rfl, up_refl _⟩
 have d1 : decide (4096 < (T.length : Int)) = false := dFz (by omega)
 have hl' : T.length ≤ 4096 := by omega
 clear hl
 go_enter Tryz.func114, Tryz.ntmps114
 go_wp2
 go_loopg [4] T.length (fun k v4 w' => ∃ i : Nat, v4 = .int .i64 i ∧ Az (i + k = T.length ∧ ∀ j y, j < i → T[j]? = some y → Right y) ∧ Az (Up w w'))
 case atStart => exact ⟨0, rfl, ⟨Nat.zero_add _, fun j y hj => absurd hj (Nat.not_lt_zero _)⟩, ⟨up_refl _⟩⟩
 case round =>
  obtain ⟨i, rfl, HI, HB⟩ := hrel
  have hi := HI.out.1
  cases gk with
  | succ k =>
    have hlt : decide ((i : Int) < (T.length : Int)) = true := dTz (by omega)
    have hln : decide (i < T.length) = true := dTz (by omega)
    have p1 : 0 ≤ (i : Int) := by omega
    have p2 : (i : Int) < (T.length : Int) := by omega
    have hx : T[i]? = some T[i] := List.getElem?_eq_getElem (by omega)
    obtain ⟨x, hxx⟩ : ∃ x, T[i]'(by omega) = x := ⟨_, rfl⟩
    rw [hxx] at hx
    have hWx : x.Wf := by rw [← hxx]; exact HW.out _ (List.getElem_mem _)
    have hls := hWx.small
    have hwt := hWx.weight
    have HX := Az.mk hx
    obtain ⟨ad, hA, A', c', hrec, hto⟩ := HT.out i x hx
    subst hA
    obtain ⟨g0, g1, g2, g3, g4, g5, g6, g7⟩ := hrec.up HB.out
    have HTO := Az.mk (Cells.up hto HB.out)
    clear hx hxx hto hrec hWx
    by_cases he : rightE x = 0
    ·have HR := Az.mk he
     clear he
     go_wp2_with (first | (go_at_call 147; (with_reducible refine (RRight_calls x A' c' 0 _ HTO.out hls hwt HR.out).mono ?_); rintro e w1 ⟨rfl, hb1⟩))
     go_roundg k
     case measure => have := HI.out.1; omega
     case rel => exact ⟨i + 1, rfl, ⟨by have := HI.out.1; omega, fun j y hj hy => by
      by_cases hji : j = i
      ·subst hji
       rw [HX.out] at hy
       cases hy
       exact HR.out
      ·exact HI.out.2 j y (by omega) hy⟩, ⟨up_trans HB.out hb1⟩⟩
    ·have h1 := tableE_wrong hl' HX.out he HI.out.2
     rw [HE.out] at h1
     simp only [Prod.mk.injEq] at h1
     obtain ⟨h1, h2⟩ := h1
     subst h1
     subst h2
     have d2 : (rightE x == 0) = false := bqf he
     have d3 : (rightE x != 0) = true := bne_iff_ne.mpr he
     clear he
     go_wp2_with (first | (go_at_call 147; (with_reducible refine (RRight_calls x A' c' _ _ HTO.out hls hwt rfl).mono ?_); rintro e w1 ⟨rfl, hb1⟩))
     go_ret2
     exact ⟨rfl, up_trans HB.out hb1⟩
  | zero =>
    have hlt : decide ((i : Int) < (T.length : Int)) = false := dFz (by omega)
    have hln : decide (i < T.length) = false := dFz (by omega)
    have HR : Az (∀ x ∈ T, Right x) := ⟨fun x hx => by
     obtain ⟨j, hj, rfl⟩ := List.getElem_of_mem hx
     exact HI.out.2 j _ (by omega) (List.getElem?_eq_getElem hj)⟩
    clear HI hi
    go_wp2
    go_loopg [6] T.length (fun k v6 w' => ∃ i : Nat, v6 = .int .i64 i ∧ Az (i + k = T.length ∧ ∀ (a b : Nat) (p q : Rec), a < b → b < i → T[a]? = some p → T[b]? = some q → clashB p q = false) ∧ Az (Up w w'))
    case atStart => exact ⟨0, rfl, ⟨Nat.zero_add _, fun a b p q _ hb => absurd hb (Nat.not_lt_zero _)⟩, HB⟩
    case round =>
     clear HB hlt
     obtain ⟨i, rfl, HI, HB⟩ := hrel
     have hi := HI.out.1
     cases gk with
     | zero =>
       have hlt : decide ((i : Int) < (T.length : Int)) = false := dFz (by omega)
       have hln : decide (i < T.length) = false := dFz (by omega)
       have h1 := tableE_right' hl' HR.out (fun a b p q hab hp hq => HI.out.2 a b p q hab (by have := (List.getElem?_eq_some_iff.1 hq).1; omega) hp hq)
       rw [HE.out] at h1
       simp only [Prod.mk.injEq] at h1
       obtain ⟨h1, h2⟩ := h1
       subst h1
       subst h2
       go_wp2
       go_ret2
       exact ⟨rfl, HB.out⟩
     | succ k =>
       have hlt : decide ((i : Int) < (T.length : Int)) = true := dTz (by omega)
       have hln : decide (i < T.length) = true := dTz (by omega)
       have p1 : 0 ≤ (i : Int) := by omega
       have p2 : (i : Int) < (T.length : Int) := by omega
       have hx : T[i]? = some T[i] := List.getElem?_eq_getElem (by omega)
       obtain ⟨x, hxx⟩ : ∃ x, T[i]'(by omega) = x := ⟨_, rfl⟩
       rw [hxx] at hx
       have HRx : Az (Right x) := ⟨by rw [← hxx]; exact HR.out _ (List.getElem_mem _)⟩
       have HX := Az.mk hx
       obtain ⟨ad, hA, A', c', hrec, hto⟩ := HT.out i x hx
       subst hA
       have HREC := Az.mk hrec
       clear hx hxx hto hrec
       go_wp2
       obtain ⟨wo, rfl⟩ : ∃ wo : World, wo = wr := ⟨_, rfl⟩
       go_loopg [7] i (fun m v7 w' => ∃ q : Nat, v7 = .int .i64 q ∧ Az (q + m = i ∧ ∀ a p, a < q → T[a]? = some p → clashB p x = false) ∧ Az (Up w w'))
       case atStart => exact ⟨0, rfl, ⟨Nat.zero_add _, fun a p ha => absurd ha (Nat.not_lt_zero _)⟩, HB⟩
       case round =>
        clear HB hlt
        obtain ⟨q, rfl, HQ, HB⟩ := hrel
        have hq := HQ.out.1
        cases gk with
        | zero =>
          have hlt : decide ((q : Int) < (i : Int)) = false := dFz (by omega)
          have hln : decide (q < i) = false := dFz (by omega)
          go_wp2
          go_roundg k
          case measure => omega
          case rel => exact ⟨i + 1, rfl, ⟨by have := HI.out.1; omega, fun a b p r hab hb hp hr => by
           by_cases hbi : b = i
           ·subst hbi
            rw [HX.out] at hr
            cases hr
            exact HQ.out.2 a p (by omega) hp
           ·exact HI.out.2 a b p r hab (by omega) hp hr⟩, HB⟩
        | succ m =>
          have hlt : decide ((q : Int) < (i : Int)) = true := dTz (by omega)
          have hln : decide (q < i) = true := dTz (by omega)
          have p3 : 0 ≤ (q : Int) := by omega
          have p4 : (q : Int) < (T.length : Int) := by omega
          have hy : T[q]? = some T[q] := List.getElem?_eq_getElem (by omega)
          obtain ⟨y, hyy⟩ : ∃ y, T[q]'(by omega) = y := ⟨_, rfl⟩
          rw [hyy] at hy
          have HRy : Az (Right y) := ⟨by rw [← hyy]; exact HR.out _ (List.getElem_mem _)⟩
          have HY := Az.mk hy
          obtain ⟨ad', hA, A2, c2, hrec2, hto2⟩ := HT.out q y hy
          cases hA
          obtain ⟨g0, g1, g2, g3, g4, g5, g6, g7⟩ := HREC.out.up HB.out
          obtain ⟨f0, f1, f2, f3, f4, f5, f6, f7⟩ := hrec2.up HB.out
          clear hy hyy hto2 hrec2
          go_wp2
          go_still_tail 8, (by kernel_rfl)
          cases hc : clashB y x with
          | true =>
            have h1 := tableE_twice hl' HR.out HX.out HY.out (by omega) hc HI.out.2
            rw [HE.out] at h1
            simp only [Prod.mk.injEq] at h1
            obtain ⟨h1, h2⟩ := h1
            subst h1
            subst h2
            go_wp2_with (first | (go_at_call 148; (with_reducible refine (clash_calls y x A2 A' c2 c' _ _ HRy.out HRx.out hc).mono ?_); rintro e w1 ⟨rfl, hb1⟩))
            go_ret2
            exact ⟨rfl, up_trans HB.out (up_trans (up_drew (up_refl _)) hb1)⟩
          | false =>
            go_wp2_with (first | (go_at_call 148; (with_reducible refine (clash_calls y x A2 A' c2 c' _ _ HRy.out HRx.out hc).mono ?_); rintro e w1 ⟨rfl, hb1⟩))
            go_roundg m
            case measure => omega
            case rel => exact ⟨q + 1, rfl, ⟨by have := HQ.out.1; omega, fun a p ha hp => by
             by_cases haq : a = q
             ·subst haq
              rw [HY.out] at hp
              cases hp
              exact hc
             ·exact HQ.out.2 a p (by omega) hp⟩, ⟨up_trans HB.out (up_trans (up_drew (up_refl _)) hb1)⟩⟩
end Go.Proofs.YtnohcnneflogjaaGreat.M
namespace Go.Proofs.YtnohcnneflogjaaGreat.M
open Go.RowKit
def letB (c : Int) : Bool := decide (c = 45) || decide (c = 46) || (decide (48 ≤ c) && decide (c ≤ 57)) || decide (97 ≤ c)
theorem bases_let : ∀ c ∈ bases, 45 ≤ c ∧ c ≤ 122 ∧ letB c = true := by decide
theorem let_bases {c : Int} (h1 : 45 ≤ c) (h2 : c ≤ 122) (h : letB c = true) : c ∈ bases := by
 simp only [letB, Bool.or_eq_true, Bool.and_eq_true, decide_eq_true_eq] at h
 simp only [bases, List.mem_cons, List.not_mem_nil, or_false]
 omega
theorem bases_all {P : Int → Bool} (h : ∀ c, 45 ≤ c → c ≤ 122 → letB c = true → P c = true) : bases.all P = true := by
 rw [List.all_eq_true]
 intro c hc
 have := bases_let c hc
 exact h c this.1 this.2.1 this.2.2
theorem bases_not {P : Int → Bool} {c : Int} (h1 : 45 ≤ c) (h2 : c ≤ 122) (h : letB c = true) (hp : P c = false) : bases.all P = false := by
 rw [List.all_eq_false]
 exact ⟨c, let_bases h1 h2 h, by rw [hp]; decide⟩
theorem RPlain_calls (A : Option Addr) (c : Nat) (T : List Rec) (d : Int) (r : Bool) (w : World) (hA : Asked w A T) (hd1 : -2147483648 ≤ d) (hd2 : d ≤ 2147483647) (hr : plainB T d = r) :
 Calls Tryz.prog 116 #[.slice A T.length c, .int .i32 d] w fun e w' => e = .returned (.bool r) ∧ Up w w' := by
 have hu96 := Tryz.underlying113
 have HA := Az.mk hA
 have hl := hA.len
 unfold plainB at hr
 rcases find_cases T 1 d with ⟨h1, h2⟩ | ⟨i, x, hi, hx, h1, h2, h3⟩
 ·rw [h2] at hr
  have hr' : false = r := hr
  subst hr'
  have H1 := Az.mk h1
  clear hA hr h1 h2
  go_enter Tryz.func116, Tryz.ntmps116
  go_wp2_with (first | (go_at_call 143; (with_reducible refine (RFind_calls A c T 1 d (-1) _ HA.out.tab HA.out.right hl (by decide) (by decide) hd1 hd2 H1.out).mono ?_); rintro e w1 ⟨rfl, hb1⟩))
  go_ret
  exact ⟨rfl, hb1⟩
 ·rw [h2] at hr
  have hr' : decide (x.kind = 1) = r := hr
  have H1 := Az.mk h1
  obtain ⟨ad, hAd, A', c', hrec, hto⟩ := hA.tab i x hx
  subst hAd
  have HREC := Az.mk hrec
  have p1 : 0 ≤ (i : Int) := by omega
  have p2 : (i : Int) < (T.length : Int) := by omega
  have p3 : decide ((i : Int) < 0) = false := dFz (by omega)
  have p4 : decide (0 ≤ (i : Int)) = true := dTz (by omega)
  have p5 : (x.kind == 1) = r := by rw [← hr']; rfl
  clear hA hr hr' h1 h2 h3 hrec hto hx
  go_enter Tryz.func116, Tryz.ntmps116
  go_wp2_with (first | (go_at_call 143; (with_reducible refine (RFind_calls _ c T 1 d i _ HA.out.tab HA.out.right hl (by decide) (by decide) hd1 hd2 H1.out).mono ?_); rintro e w1 ⟨rfl, hb1⟩; obtain ⟨g0, g1, g2, g3, g4, g5, g6, g7⟩ := HREC.out.up hb1))
  go_ret
  exact ⟨rfl, hb1⟩
theorem RCheck_calls (A : Option Addr) (c : Nat) (T : List Rec) (n : Nat) (e : Int) (w : World) (hT : Table w A T) (hW : ∀ x ∈ T, x.Wf) (h : checkE T = (n, e)) :
 Calls Tryz.prog 73 #[.slice A T.length c] w fun r w' => r = .returned (.tuple #[.int .i64 n, .int .i64 e]) ∧ Up w w' := by
 have HT := Az.mk hT
 have HW := Az.mk hW
 obtain ⟨m, k, ht⟩ : ∃ m k, tableE T = (m, k) := ⟨_, _, rfl⟩
 by_cases hk : k = 0
 ·subst hk
  have ht2 : (tableE T).2 = 0 := by rw [ht]
  have HT2 := Az.mk ht2
  have HC := Az.mk h
  have HTE := Az.mk ht
  obtain ⟨hl, hR, _⟩ := tableE_right ht2
  have HA : Az (Asked w A T) := ⟨⟨hT, hR, hW, hl⟩⟩
  clear hT hW h ht ht2 hR
  go_enter Tryz.func73, Tryz.ntmps73
  go_wp2_with (first | (go_at_call 114; (with_reducible refine (RCheck6_calls A c T m 0 _ HT.out HW.out HTE.out).mono ?_); rintro r w1 ⟨rfl, hb1⟩))
  go_loopg [6] T.length (fun k v6 w' => ∃ i : Nat, v6 = .int .i64 i ∧ Az (i + k = T.length ∧ ∀ j, j < i → recordE T j = 0) ∧ Az (Up w w'))
  case atStart => exact ⟨0, rfl, ⟨Nat.zero_add _, fun j hj => absurd hj (Nat.not_lt_zero _)⟩, ⟨hb1⟩⟩
  case round =>
   obtain ⟨i, rfl, HI, HB⟩ := hrel
   clear hb1
   have hi := HI.out.1
   cases gk with
   | succ k =>
     have hlt : decide ((i : Int) < (T.length : Int)) = true := dTz (by omega)
     have hln : decide (i < T.length) = true := dTz (by omega)
     obtain ⟨ad, hAd, _⟩ := HT.out i T[i] (List.getElem?_eq_getElem (by omega))
     subst hAd
     obtain ⟨e', hre⟩ : ∃ e', recordE T i = e' := ⟨_, rfl⟩
     have HRE := Az.mk hre
     have HLT : Az (i < T.length) := ⟨by omega⟩
     clear hre
     by_cases he : e' = 0
     ·subst he
      go_wp2_with (first | (go_at_call 115; (with_reducible refine (RRecord_calls ad c T i 0 _ (HA.out.up HB.out) HLT.out HRE.out).mono ?_); rintro r w2 ⟨rfl, hb2⟩))
      go_roundg k
      case measure => have := HI.out.1; omega
      case rel => exact ⟨i + 1, rfl, ⟨by have := HI.out.1; omega, fun j hj => by
       by_cases hji : j = i
       ·subst hji
        exact HRE.out
       ·exact HI.out.2 j (by omega)⟩, ⟨up_trans HB.out hb2⟩⟩
     ·have h1 := checkE_record HT2.out HLT.out HRE.out he HI.out.2
      rw [HC.out] at h1
      simp only [Prod.mk.injEq] at h1
      obtain ⟨h1, h2⟩ := h1
      subst h1
      subst h2
      have d2 : (e == 0) = false := bqf he
      have d3 : (e != 0) = true := bne_iff_ne.mpr he
      clear he
      go_wp2_with (first | (go_at_call 115; (with_reducible refine (RRecord_calls ad c T n e _ (HA.out.up HB.out) HLT.out HRE.out).mono ?_); rintro r w2 ⟨rfl, hb2⟩))
      go_ret2
      exact ⟨rfl, up_trans HB.out hb2⟩
   | zero =>
     have hlt : decide ((i : Int) < (T.length : Int)) = false := dFz (by omega)
     have hln : decide (i < T.length) = false := dFz (by omega)
     have h1 := checkE_bases HT2.out (fun j hj => HI.out.2 j (by omega))
     rw [HC.out] at h1
     have H1 := Az.mk h1
     clear h1 hi HI
     go_wp2
     go_loopg [8] 78 (fun k v8 w' => ∃ d : Int, v8 = .int .i32 d ∧ (45 ≤ d ∧ d ≤ 123) ∧ Az (d + k = 123 ∧ ∀ j, 45 ≤ j → j < d → letB j = true → plainB T j = true) ∧ Az (Up w w'))
     case atStart => exact ⟨45, rfl, by omega, ⟨by omega, fun j h1 h2 => by omega⟩, HB⟩
     case round =>
      clear HB hlt hln
      obtain ⟨d, rfl, ⟨q1, q2⟩, HI, HB⟩ := hrel
      have hi := HI.out.1
      cases gk with
      | zero =>
        have hlt : decide (d ≤ 122) = false := dFz (by omega)
        have hb : bases.all (plainB T) = true := bases_all (fun c h1 h2 h3 => HI.out.2 c h1 (by omega) h3)
        have h1 := H1.out
        rw [if_pos hb] at h1
        simp only [Prod.mk.injEq] at h1
        obtain ⟨h1, h2⟩ := h1
        subst h1
        subst h2
        clear hb hi
        go_wp2
        go_ret2
        exact ⟨rfl, HB.out⟩
      | succ k =>
        have hlt : decide (d ≤ 122) = true := dTz (by omega)
        have HD : Az (d + (k + 1 : Nat) = 123) := ⟨hi⟩
        have r1 : -2147483648 ≤ d := by omega
        have r2 : d ≤ 2147483647 := by omega
        cases hp : plainB T d with
        | true =>
          have HP := Az.mk hp
          clear hp hi
          rcases Bool.eq_false_or_eq_true (d == 45) with b1 | b1 <;> rcases Bool.eq_false_or_eq_true (d == 46) with b2 | b2 <;> rcases Bool.eq_false_or_eq_true (decide (48 ≤ d)) with b3 | b3 <;> rcases Bool.eq_false_or_eq_true (decide (d ≤ 57)) with b4 | b4 <;> rcases Bool.eq_false_or_eq_true (decide (97 ≤ d)) with b5 | b5
          all_goals
           go_wp2_with (first | (go_at_call 116; (with_reducible refine (RPlain_calls _ c T d true _ (HA.out.up HB.out) r1 r2 HP.out).mono ?_); rintro r w2 ⟨rfl, hb2⟩; replace HB := Az.mk (up_trans HB.out hb2)))
           go_roundg k
           case measure => have := HD.out; omega
           case rel => exact ⟨d + 1, rfl, by have := HD.out; omega, ⟨by have := HD.out; omega, fun j h1 h2 h3 => by
            by_cases hjd : j = d
            ·subst hjd
             exact HP.out
            ·exact HI.out.2 j h1 (by omega) h3⟩, HB⟩
        | false =>
          cases hL : letB d with
          | true =>
            have hb := bases_not (P := plainB T) q1 (by omega) hL hp
            have h1 := H1.out
            rw [hb] at h1
            have h1' : (n, e) = (T.length, 70) := h1
            simp only [Prod.mk.injEq] at h1'
            obtain ⟨h1', h2⟩ := h1'
            subst h1'
            subst h2
            have HP := Az.mk hp
            clear hp hi hb h1 H1 HC
            simp only [letB, Bool.or_eq_true, Bool.and_eq_true, decide_eq_true_eq] at hL
            have HL := Az.mk hL
            clear hL
            rcases Bool.eq_false_or_eq_true (d == 45) with b1 | b1 <;> rcases Bool.eq_false_or_eq_true (d == 46) with b2 | b2 <;> rcases Bool.eq_false_or_eq_true (decide (48 ≤ d)) with b3 | b3 <;> rcases Bool.eq_false_or_eq_true (decide (d ≤ 57)) with b4 | b4 <;> rcases Bool.eq_false_or_eq_true (decide (97 ≤ d)) with b5 | b5
            all_goals
             try (exfalso; have hL := HL.out; simp at b1 b2 b3 b4 b5; omega; done)
            all_goals
             go_wp2_with (first | (go_at_call 116; (with_reducible refine (RPlain_calls _ c T d false _ (HA.out.up HB.out) r1 r2 HP.out).mono ?_); rintro r w2 ⟨rfl, hb2⟩; replace HB := Az.mk (up_trans HB.out hb2)))
             go_ret2
             exact ⟨rfl, HB.out⟩
          | false =>
            have HP := Az.mk hL
            simp only [letB, Bool.or_eq_false_iff, Bool.and_eq_false_iff, decide_eq_false_iff_not] at hL
            have HL := Az.mk hL
            clear hL hi hp
            rcases Bool.eq_false_or_eq_true (d == 45) with b1 | b1 <;> rcases Bool.eq_false_or_eq_true (d == 46) with b2 | b2 <;> rcases Bool.eq_false_or_eq_true (decide (48 ≤ d)) with b3 | b3 <;> rcases Bool.eq_false_or_eq_true (decide (d ≤ 57)) with b4 | b4 <;> rcases Bool.eq_false_or_eq_true (decide (97 ≤ d)) with b5 | b5
            all_goals
             try (exfalso; have hL := HL.out; simp at b1 b2 b3 b4 b5; omega; done)
            all_goals
             go_wp2
             go_roundg k
             case measure => have := HD.out; omega
             case rel => exact ⟨d + 1, rfl, by have := HD.out; omega, ⟨by have := HD.out; omega, fun j h1 h2 h3 => by
              by_cases hjd : j = d
              ·subst hjd
               rw [HP.out] at h3
               cases h3
              ·exact HI.out.2 j h1 (by omega) h3⟩, HB⟩
 ·have h1 := checkE_table (T := T) (by rw [ht]; exact hk)
  rw [h, ht] at h1
  simp only [Prod.mk.injEq] at h1
  obtain ⟨h1, h2⟩ := h1
  subst h1
  subst h2
  have HTE := Az.mk ht
  have d2 : (e == 0) = false := bqf hk
  have d3 : (e != 0) = true := bne_iff_ne.mpr hk
  clear hk h ht hT hW
  go_enter Tryz.func73, Tryz.ntmps73
  go_wp2_with (first | (go_at_call 114; (with_reducible refine (RCheck6_calls A c T n e _ HT.out HW.out HTE.out).mono ?_); rintro r w1 ⟨rfl, hb1⟩))
  go_ret2
  exact ⟨rfl, hb1⟩
end Go.Proofs.YtnohcnneflogjaaGreat.M
