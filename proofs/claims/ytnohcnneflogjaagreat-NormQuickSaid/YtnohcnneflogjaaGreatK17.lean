/- Whether a pair may compose, walked: the document's. -/
import Derived.Test.YtnohcnneflogjaaGreatK10
import Derived.Test.YtnohcnneflogjaaGreatK01
set_option maxHeartbeats 16000000
set_option maxRecDepth 100000
set_option linter.unusedVariables false
set_option linter.unusedSimpArgs false
namespace Go.Proofs.YtnohcnneflogjaaGreat.M
open Go.RowKit
theorem validB_iff (c : Int) : validB c = true ↔ 0 ≤ c ∧ c ≤ 1114111 ∧ (c < 55296 ∨ 57343 < c) := by
 simp [validB]
 omega
theorem wrap32_small {c : Int} (h0 : 0 ≤ c) (h1 : c ≤ 1114111) : wrap32 c = c := by unfold wrap32; omega
theorem Right.decomp {x : Rec} (h : Right x) (hk : x.kind = 7) : ∃ a b, x.to = [a, b] ∧ validB a = true ∧ validB b = true ∧ x.lo = x.hi ∧ validB x.lo = true := by
 have hf := h.fits
 unfold fitsB at hf
 rw [if_neg (by omega), if_neg (by omega), if_neg (by omega), if_neg (by omega), if_pos hk] at hf
 simp only [Bool.and_eq_true, listB, oneB, decide_eq_true_eq, List.all_eq_true] at hf
 obtain ⟨_, ⟨h1, h2⟩, ⟨h3, h4⟩, h5⟩ := hf
 obtain ⟨a, b, hab⟩ := two_of (l := x.to) (by omega)
 have hl := h.low
 rw [wrap32_small hl.1 (by omega)] at h2
 exact ⟨a, b, hab, h5 a (by rw [hab]; simp), h5 b (by rw [hab]; simp), h1, h2⟩
def pairAt (a b : Int) (o : Rec) : Bool := decide (o.kind = 7) && decide (rd o.to 0 = a) && decide (rd o.to 1 = b)
theorem aheadB_false {T : List Rec} {a b : Int} {i : Nat} (h : ∀ j y, j < i → T[j]? = some y → pairAt a b y = false) : aheadB T a b i = false := by
 unfold aheadB
 rw [List.any_eq_false]
 intro y hy
 obtain ⟨j, hj⟩ := List.mem_iff_getElem?.1 hy
 rw [List.getElem?_take] at hj
 split at hj
 ·have := h j y (by assumption) hj
  unfold pairAt at this
  simpa using this
 ·cases hj
theorem aheadB_true {T : List Rec} {a b : Int} {i j : Nat} {y : Rec} (hj : j < i) (hy : T[j]? = some y) (h : pairAt a b y = true) : aheadB T a b i = true := by
 unfold aheadB
 rw [List.any_eq_true]
 exact ⟨y, List.mem_iff_getElem?.2 ⟨j, by rw [List.getElem?_take, if_pos hj]; exact hy⟩, h⟩
theorem mrpair_1 {p : Prop} (h : p := by
 go_enter Tryz.func156, Tryz.ntmps156
 go_wp2
 go_quiet (fail)
 have HB0 : Az (Up w (w.drewN nq)) := ⟨up_drewN (up_refl _) _⟩
 go_wp2_with (first | (go_at_call 181; (with_reducible refine (RPrimary_calls (some ad) c T a _ (HA.out.up HB0.out).tab HA.out.right HA.out.wf HA.out.len RA.out.1 RA.out.2 _ HP.out).mono ?_); rintro e w1 ⟨xx, yy, rfl, hb1⟩; have HB1 := Az.mk (up_trans HB0.out hb1)) | (go_at_call 132; (with_reducible refine (RClass_calls (some ad) c T x.lo _ (HA.out.up HB1.out).tab HA.out.right HA.out.wf HA.out.len RL.out.1 RL.out.2 n1 HN1.out).mono ?_); rintro e w2 ⟨rfl, hb2⟩; have HB2 := Az.mk (up_trans HB1.out hb2)) | (go_at_call 132; (with_reducible refine (RClass_calls (some ad) c T a _ (HA.out.up HB2.out).tab HA.out.right HA.out.wf HA.out.len RA.out.1 RA.out.2 n2 HN2.out).mono ?_); rintro e w3 ⟨rfl, hb3⟩; have HB3 := Az.mk (up_trans HB2.out hb3)) | (go_at_call 138; (with_reducible refine (ROpen_calls (some ad) c T b _ (HA.out.up HB3.out).tab HA.out.right HA.out.wf HA.out.len RB.out.1 RB.out.2).mono ?_); rintro e w4 ⟨v4, rfl, hown4, hb4⟩; rw [HOB.out] at hown4; obtain ⟨A4, c4, rfl⟩ := own_any hown4; clear hown4; have HB4 := Az.mk (up_trans HB3.out hb4)) | (go_at_call 138; (with_reducible refine (ROpen_calls (some ad) c T a _ (HA.out.up HB4.out).tab HA.out.right HA.out.wf HA.out.len RA.out.1 RA.out.2).mono ?_); rintro e w5 ⟨v5, rfl, hown5, hb5⟩; rw [HOA.out] at hown5; obtain ⟨A5, c5, rfl⟩ := own_any hown5; clear hown5; have HB5 := Az.mk (up_trans HB4.out hb5)))
 go_ret
 exact ⟨rfl, HB5.out⟩) : p := h
theorem RPair_calls (ad : Addr) (c : Nat) (T : List Rec) (i : Nat) (x : Rec) (r : Bool) (w : World) (hA : Asked w (some ad) T) (hx : T[i]? = some x) (hk : x.kind = 7) (hr : (pairsB T x && !aheadB T (rd x.to 0) (rd x.to 1) i) = r) :
 Calls Tryz.prog 156 #[.slice (some ad) T.length c, .int .i64 i] w fun e w' => e = .returned (.bool r) ∧ Up w w' := by
 have hu96 := Tryz.underlying113
 have hi : i < T.length := (List.getElem?_eq_some_iff.1 hx).1
 have hi4 : i ≤ 4096 := by have := hA.len; omega
 have hRx : Right x := hA.right x (List.mem_of_getElem? hx)
 obtain ⟨a, b, hab, va, vb, hlh, vl⟩ := hRx.decomp hk
 obtain ⟨ad0, hA0, A', c', hrec, hto⟩ := hA.tab i x hx
 cases hA0
 have hp := (validB_iff _).1 va
 have hq := (validB_iff _).1 vb
 have hl0 := (validB_iff _).1 vl
 have RA : Az (-2147483648 ≤ a ∧ a ≤ 2147483647) := ⟨by omega⟩
 have RB : Az (-2147483648 ≤ b ∧ b ≤ 2147483647) := ⟨by omega⟩
 have RL : Az (-2147483648 ≤ x.lo ∧ x.lo ≤ 2147483647) := ⟨by omega⟩
 have RDA : Az (rd x.to 0 = a) := ⟨by rw [hab]; rfl⟩
 have RDB : Az (rd x.to 1 = b) := ⟨by rw [hab]; rfl⟩
 obtain ⟨ad2, hA2, hc0⟩ := hto 0 (.int .i32 a) (by rw [hab]; rfl)
 obtain ⟨ad3, hA3, hc1⟩ := hto 1 (.int .i32 b) (by rw [hab]; rfl)
 rw [hA2] at hA3
 cases hA3
 subst hA2
 replace hc0 : w.cell? ad2 = some (.int .i32 a) := hc0
 replace hc1 : w.cell? ⟨ad2.block, ad2.off + 1, none⟩ = some (.int .i32 b) := hc1
 obtain ⟨g0, g1, g2, g3, g4, g5, g6, g7⟩ := hrec
 have hlen : x.to.length = 2 := by rw [hab]; rfl
 rw [hlen] at g4
 have p1 : 0 ≤ (i : Int) := by omega
 have p2 : (i : Int) < (T.length : Int) := by omega
 have p3 : 0 ≤ x.lo := hl0.1
 have p4 : x.lo ≤ 1114111 := hl0.2.1
 have HA := Az.mk hA
 obtain ⟨n1, hn1⟩ : ∃ n, classF T x.lo = n := ⟨_, rfl⟩
 obtain ⟨n2, hn2⟩ : ∃ n, classF T a = n := ⟨_, rfl⟩
 obtain ⟨ob, hob⟩ : ∃ l, openF T b = l := ⟨_, rfl⟩
 obtain ⟨oa, hoa⟩ : ∃ l, openF T a = l := ⟨_, rfl⟩
 obtain ⟨pb, hpb⟩ : ∃ q, primB T a = q := ⟨_, rfl⟩
 have HN1 := Az.mk hn1
 have HN2 := Az.mk hn2
 have HOB := Az.mk hob
 have HOA := Az.mk hoa
 have HP := Az.mk hpb
 have hpr : pairsB T x = (decide (n1 = 0) && decide (n2 = 0) && decide (ob = []) && (decide (oa = []) || pb) && decide (128 ≤ b) && decide (a ≠ 46)) := by
  unfold pairsB
  rw [RDA.out, RDB.out, hn1, hn2, hob, hoa, hpb]
 rw [hpr, RDA.out, RDB.out] at hr
 clear hn1 hn2 hob hoa hpb hpr hto hlen hab va vb hlh vl hRx hA hp hq hl0
 by_cases k1 : n1 = 0
 ·have t1 : (n1 == 0) = true := beq_iff_eq.mpr k1
  have t1' : (n1 != 0) = false := by rw [bne, t1]; rfl
  rw [dTz k1, Bool.true_and] at hr
  clear k1
  by_cases k2 : n2 = 0
  ·have t2 : (n2 == 0) = true := beq_iff_eq.mpr k2
   have t2' : (n2 != 0) = false := by rw [bne, t2]; rfl
   rw [dTz k2, Bool.true_and] at hr
   clear k2
   by_cases k3 : ob = []
   ·have t3 : decide ((0 : Int) < (ob.length : Int)) = false := dFz (by rw [k3]; simp)
    have t3' : decide (0 < ob.length) = false := dFz (by rw [k3]; simp)
    rw [dTz k3, Bool.true_and] at hr
    clear k3
    cases k4 : (decide (oa = []) || pb) with
    | true =>
      have t4 : decide ((0 : Int) < (oa.length : Int)) = false ∧ decide (0 < oa.length) = false ∨ decide ((0 : Int) < (oa.length : Int)) = true ∧ decide (0 < oa.length) = true ∧ pb = true := by
       by_cases h : oa = []
       ·left; rw [h]; simp
       ·right
        have hp : 0 < oa.length := List.length_pos_iff.2 h
        rw [dFz h, Bool.false_or] at k4
        exact ⟨dTz (by omega), dTz hp, k4⟩
      rw [k4, Bool.true_and] at hr
      clear k4
      by_cases k5 : 128 ≤ b
      ·have t5 : decide (b < 128) = false := dFz (by omega)
       rw [dTz k5, Bool.true_and] at hr
       by_cases k6 : a = 46
       ·have t6 : (a == 46) = true := beq_iff_eq.mpr k6
        rw [dFz (show ¬ a ≠ 46 from fun h => h k6), Bool.false_and] at hr
        subst hr
        clear k5 k6
        rcases t4 with ⟨t4, t4'⟩ | ⟨t4, t4', rfl⟩
        all_goals
         exact mrpair_1
       ·have t6 : (a == 46) = false := bqf k6
        rw [dTz k6, Bool.true_and] at hr
        have HR := Az.mk hr
        clear k5 k6 hr
        rcases t4 with ⟨t4, t4'⟩ | ⟨t4, t4', rfl⟩
        all_goals
         go_enter Tryz.func156, Tryz.ntmps156
         go_wp2
         go_quiet (fail)
         have HB0 : Az (Up w (w.drewN nq)) := ⟨up_drewN (up_refl _) _⟩
         go_wp2_with (first | (go_at_call 181; (with_reducible refine (RPrimary_calls (some ad) c T a _ (HA.out.up HB0.out).tab HA.out.right HA.out.wf HA.out.len RA.out.1 RA.out.2 _ HP.out).mono ?_); rintro e w1 ⟨xx, yy, rfl, hb1⟩; have HB1 := Az.mk (up_trans HB0.out hb1)) | (go_at_call 132; (with_reducible refine (RClass_calls (some ad) c T x.lo _ (HA.out.up HB1.out).tab HA.out.right HA.out.wf HA.out.len RL.out.1 RL.out.2 n1 HN1.out).mono ?_); rintro e w2 ⟨rfl, hb2⟩; have HB2 := Az.mk (up_trans HB1.out hb2)) | (go_at_call 132; (with_reducible refine (RClass_calls (some ad) c T a _ (HA.out.up HB2.out).tab HA.out.right HA.out.wf HA.out.len RA.out.1 RA.out.2 n2 HN2.out).mono ?_); rintro e w3 ⟨rfl, hb3⟩; have HB3 := Az.mk (up_trans HB2.out hb3)) | (go_at_call 138; (with_reducible refine (ROpen_calls (some ad) c T b _ (HA.out.up HB3.out).tab HA.out.right HA.out.wf HA.out.len RB.out.1 RB.out.2).mono ?_); rintro e w4 ⟨v4, rfl, hown4, hb4⟩; rw [HOB.out] at hown4; obtain ⟨A4, c4, rfl⟩ := own_any hown4; clear hown4; have HB4 := Az.mk (up_trans HB3.out hb4)) | (go_at_call 138; (with_reducible refine (ROpen_calls (some ad) c T a _ (HA.out.up HB4.out).tab HA.out.right HA.out.wf HA.out.len RA.out.1 RA.out.2).mono ?_); rintro e w5 ⟨v5, rfl, hown5, hb5⟩; rw [HOA.out] at hown5; obtain ⟨A5, c5, rfl⟩ := own_any hown5; clear hown5; have HB5 := Az.mk (up_trans HB4.out hb5)))
         clear g0 g1 g2 g3 g4 g5 g6 g7 hc0 hc1
         go_loopg [11] i (fun k v11 w' => ∃ j : Nat, v11 = .int .i64 j ∧ Az (j + k = i ∧ ∀ q y, q < j → T[q]? = some y → pairAt a b y = false) ∧ Az (Up w w'))
         case atStart => exact ⟨0, rfl, ⟨Nat.zero_add _, fun q y hq => absurd hq (Nat.not_lt_zero _)⟩, HB5⟩
         case round =>
          obtain ⟨j, rfl, HI, HB⟩ := hrel
          have hj := HI.out.1
          cases gk with
          | zero =>
            have hlt : decide ((j : Int) < (i : Int)) = false := dFz (by omega)
            have hln : decide (j < i) = false := dFz (by omega)
            have hres := HR.out
            rw [aheadB_false (i := i) (fun q y hq hy => HI.out.2 q y (by omega) hy)] at hres
            have hres' : true = r := hres
            subst hres'
            clear hres
            go_wp2
            go_ret
            exact ⟨rfl, HB.out⟩
          | succ k =>
            have hlt : decide ((j : Int) < (i : Int)) = true := dTz (by omega)
            have hln : decide (j < i) = true := dTz (by omega)
            have p5 : 0 ≤ (j : Int) := by omega
            have p6 : (j : Int) < (T.length : Int) := by omega
            have hy : T[j]? = some T[j] := List.getElem?_eq_getElem (by omega)
            obtain ⟨y, hyy⟩ : ∃ y, T[j]'(by omega) = y := ⟨_, rfl⟩
            rw [hyy] at hy
            have hRy : Right y := by rw [← hyy]; exact HA.out.right _ (List.getElem_mem _)
            have HY := Az.mk hy
            obtain ⟨ad0, hA0, A2, c2, hrec2, hto2⟩ := HA.out.tab j y hy
            cases hA0
            obtain ⟨g0, g1, g2, g3, g4, g5, g6, g7⟩ := hrec2.up HB.out
            clear hyy hrec2 hy
            by_cases hk7 : y.kind = 7
            ·obtain ⟨ya, yb, hyab, _, _, _, _⟩ := hRy.decomp hk7
             have e7 : (y.kind == 7) = true := beq_iff_eq.mpr hk7
             obtain ⟨ad4, hA4, hd0⟩ := hto2 0 (.int .i32 ya) (by rw [hyab]; rfl)
             obtain ⟨ad5, hA5, hd1⟩ := hto2 1 (.int .i32 yb) (by rw [hyab]; rfl)
             rw [hA4] at hA5
             cases hA5
             subst hA4
             replace hd0 : w.cell? ad4 = some (.int .i32 ya) := hd0
             replace hd1 : w.cell? ⟨ad4.block, ad4.off + 1, none⟩ = some (.int .i32 yb) := hd1
             replace hd0 := up_cell HB.out hd0
             replace hd1 := up_cell HB.out hd1
             have hlen2 : y.to.length = 2 := by rw [hyab]; rfl
             rw [hlen2] at g4
             have hpa : pairAt a b y = ((ya == a) && (yb == b)) := by
              unfold pairAt
              rw [dTz hk7, hyab, Bool.true_and]
              show (decide (ya = a) && decide (yb = b)) = _
              by_cases h1 : ya = a <;> by_cases h2 : yb = b <;> simp [h1, h2]
             have HPA := Az.mk hpa
             clear hpa hk7 hyab hlen2 hto2 hRy
             cases s1 : (ya == a) with
             | false =>
               go_wp2
               go_roundg k
               case measure => omega
               case rel => exact ⟨j + 1, rfl, ⟨by have := HI.out.1; omega, fun q z hq hz => by
                by_cases hqj : q = j
                ·subst hqj
                 rw [HY.out] at hz
                 cases hz
                 rw [HPA.out, s1, Bool.false_and]
                ·exact HI.out.2 q z (by omega) hz⟩, HB⟩
             | true =>
               cases s2 : (yb == b) with
               | false =>
                 go_wp2
                 go_roundg k
                 case measure => omega
                 case rel => exact ⟨j + 1, rfl, ⟨by have := HI.out.1; omega, fun q z hq hz => by
                  by_cases hqj : q = j
                  ·subst hqj
                   rw [HY.out] at hz
                   cases hz
                   rw [HPA.out, s2, Bool.and_false]
                  ·exact HI.out.2 q z (by omega) hz⟩, HB⟩
               | true =>
                 have hres := HR.out
                 rw [aheadB_true (i := i) (show j < i by omega) HY.out (by rw [HPA.out, s1, s2]; rfl)] at hres
                 have hres' : false = r := hres
                 subst hres'
                 clear hres
                 go_wp2
                 go_ret
                 exact ⟨rfl, HB.out⟩
            ·have e7 : (y.kind == 7) = false := bqf hk7
             have HK7 := Az.mk hk7
             clear hk7 hto2 hRy
             go_wp2
             go_roundg k
             case measure => omega
             case rel => exact ⟨j + 1, rfl, ⟨by have := HI.out.1; omega, fun q z hq hz => by
              by_cases hqj : q = j
              ·subst hqj
               rw [HY.out] at hz
               cases hz
               unfold pairAt
               rw [dFz HK7.out]
               rfl
              ·exact HI.out.2 q z (by omega) hz⟩, HB⟩
      ·have t5 : decide (b < 128) = true := dTz (by omega)
       rw [dFz k5] at hr
       simp only [Bool.false_and] at hr
       subst hr
       clear k5
       rcases t4 with ⟨t4, t4'⟩ | ⟨t4, t4', rfl⟩
       all_goals
        exact mrpair_1
    | false =>
      rw [k4] at hr
      simp only [Bool.false_and] at hr
      subst hr
      have k4' := k4
      rw [Bool.or_eq_false_iff] at k4
      obtain ⟨k5, rfl⟩ := k4
      have hp : 0 < oa.length := List.length_pos_iff.2 (of_decide_eq_false k5)
      have t4 : decide ((0 : Int) < (oa.length : Int)) = true := dTz (by omega)
      have t4' : decide (0 < oa.length) = true := dTz hp
      clear k4' k5
      exact mrpair_1
   ·have hp : 0 < ob.length := List.length_pos_iff.2 k3
    have t3 : decide ((0 : Int) < (ob.length : Int)) = true := dTz (by omega)
    have t3' : decide (0 < ob.length) = true := dTz hp
    rw [dFz k3] at hr
    simp only [Bool.false_and] at hr
    subst hr
    clear k3
    go_enter Tryz.func156, Tryz.ntmps156
    go_wp2
    go_quiet (fail)
    have HB0 : Az (Up w (w.drewN nq)) := ⟨up_drewN (up_refl _) _⟩
    go_wp2_with (first | (go_at_call 181; (with_reducible refine (RPrimary_calls (some ad) c T a _ (HA.out.up HB0.out).tab HA.out.right HA.out.wf HA.out.len RA.out.1 RA.out.2 _ HP.out).mono ?_); rintro e w1 ⟨xx, yy, rfl, hb1⟩; have HB1 := Az.mk (up_trans HB0.out hb1)) | (go_at_call 132; (with_reducible refine (RClass_calls (some ad) c T x.lo _ (HA.out.up HB1.out).tab HA.out.right HA.out.wf HA.out.len RL.out.1 RL.out.2 n1 HN1.out).mono ?_); rintro e w2 ⟨rfl, hb2⟩; have HB2 := Az.mk (up_trans HB1.out hb2)) | (go_at_call 132; (with_reducible refine (RClass_calls (some ad) c T a _ (HA.out.up HB2.out).tab HA.out.right HA.out.wf HA.out.len RA.out.1 RA.out.2 n2 HN2.out).mono ?_); rintro e w3 ⟨rfl, hb3⟩; have HB3 := Az.mk (up_trans HB2.out hb3)) | (go_at_call 138; (with_reducible refine (ROpen_calls (some ad) c T b _ (HA.out.up HB3.out).tab HA.out.right HA.out.wf HA.out.len RB.out.1 RB.out.2).mono ?_); rintro e w4 ⟨v4, rfl, hown4, hb4⟩; rw [HOB.out] at hown4; obtain ⟨A4, c4, rfl⟩ := own_any hown4; clear hown4; have HB4 := Az.mk (up_trans HB3.out hb4)))
    go_ret
    exact ⟨rfl, HB4.out⟩
  ·have t2 : (n2 == 0) = false := bqf k2
   have t2' : (n2 != 0) = true := bne_iff_ne.mpr k2
   rw [dFz k2] at hr
   simp only [Bool.false_and] at hr
   subst hr
   clear k2
   go_enter Tryz.func156, Tryz.ntmps156
   go_wp2
   go_quiet (fail)
   have HB0 : Az (Up w (w.drewN nq)) := ⟨up_drewN (up_refl _) _⟩
   go_wp2_with (first | (go_at_call 181; (with_reducible refine (RPrimary_calls (some ad) c T a _ (HA.out.up HB0.out).tab HA.out.right HA.out.wf HA.out.len RA.out.1 RA.out.2 _ HP.out).mono ?_); rintro e w1 ⟨xx, yy, rfl, hb1⟩; have HB1 := Az.mk (up_trans HB0.out hb1)) | (go_at_call 132; (with_reducible refine (RClass_calls (some ad) c T x.lo _ (HA.out.up HB1.out).tab HA.out.right HA.out.wf HA.out.len RL.out.1 RL.out.2 n1 HN1.out).mono ?_); rintro e w2 ⟨rfl, hb2⟩; have HB2 := Az.mk (up_trans HB1.out hb2)) | (go_at_call 132; (with_reducible refine (RClass_calls (some ad) c T a _ (HA.out.up HB2.out).tab HA.out.right HA.out.wf HA.out.len RA.out.1 RA.out.2 n2 HN2.out).mono ?_); rintro e w3 ⟨rfl, hb3⟩; have HB3 := Az.mk (up_trans HB2.out hb3)))
   go_ret
   exact ⟨rfl, HB3.out⟩
 ·have t1 : (n1 == 0) = false := bqf k1
  have t1' : (n1 != 0) = true := bne_iff_ne.mpr k1
  rw [dFz k1] at hr
  simp only [Bool.false_and] at hr
  subst hr
  clear k1
  go_enter Tryz.func156, Tryz.ntmps156
  go_wp2
  go_quiet (fail)
  have HB0 : Az (Up w (w.drewN nq)) := ⟨up_drewN (up_refl _) _⟩
  go_wp2_with (first | (go_at_call 181; (with_reducible refine (RPrimary_calls (some ad) c T a _ (HA.out.up HB0.out).tab HA.out.right HA.out.wf HA.out.len RA.out.1 RA.out.2 _ HP.out).mono ?_); rintro e w1 ⟨xx, yy, rfl, hb1⟩; have HB1 := Az.mk (up_trans HB0.out hb1)) | (go_at_call 132; (with_reducible refine (RClass_calls (some ad) c T x.lo _ (HA.out.up HB1.out).tab HA.out.right HA.out.wf HA.out.len RL.out.1 RL.out.2 n1 HN1.out).mono ?_); rintro e w2 ⟨rfl, hb2⟩; have HB2 := Az.mk (up_trans HB1.out hb2)))
  go_ret
  exact ⟨rfl, HB2.out⟩
end Go.Proofs.YtnohcnneflogjaaGreat.M
