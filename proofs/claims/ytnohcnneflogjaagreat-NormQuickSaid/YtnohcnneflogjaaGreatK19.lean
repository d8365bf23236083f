/- What is reckoned, walked: the program's. -/
import Derived.Test.YtnohcnneflogjaaGreatK17
set_option maxHeartbeats 16000000
set_option maxRecDepth 100000
set_option linter.unusedVariables false
set_option linter.unusedSimpArgs false
namespace Go.Proofs.YtnohcnneflogjaaGreat.M
open Go.RowKit
theorem pjamo_no {j1 j2 s1 j3 : Bool} {P : Prop} [Decidable P] (h : (j1 && j2 || s1 && decide P && j3) = false) :
 (j1 = false ∨ (j1 = true ∧ j2 = false)) ∧ (s1 = false ∨ (s1 = true ∧ decide P = false ∧ ¬ P) ∨ (s1 = true ∧ decide P = true ∧ P ∧ j3 = false)) := by
 by_cases hp : P <;> cases j1 <;> cases j2 <;> cases s1 <;> cases j3 <;> simp_all
theorem pjamo_yes {j1 j2 s1 j3 : Bool} {P : Prop} [Decidable P] (h : (j1 && j2 || s1 && decide P && j3) = true) :
 (j1 = true ∧ j2 = true) ∨ ((j1 = false ∨ (j1 = true ∧ j2 = false)) ∧ s1 = true ∧ decide P = true ∧ P ∧ j3 = true) := by
 by_cases hp : P <;> cases j1 <;> cases j2 <;> cases s1 <;> cases j3 <;> simp_all
theorem psyl_tmod (a : Int) : (syl a && decide ((a - 44032) % 28 = 0)) = (syl a && decide ((a - 44032).tmod 28 = 0)) := by
 cases h : syl a with
 | false => rfl
 | true =>
   unfold syl at h
   simp only [Bool.and_eq_true, decide_eq_true_eq] at h
   rw [Int.tmod_eq_emod_of_nonneg (by omega)]
def hLo : Nat → Int | 0 => 4352 | 1 => 4449 | 2 => 4520 | _ => 44032
def hHi : Nat → Int | 0 => 4370 | 1 => 4469 | 2 => 4546 | _ => 55203
def hangO : Obj := .cells #[.int .i64 4352, .int .i64 4370, .int .i64 4449, .int .i64 4469, .int .i64 4520, .int .i64 4546, .int .i64 44032, .int .i64 55203] 219
theorem hang_cells (w : World) (o : Obj) (j : Nat) (hj : j < 4) : ((w.alloc o).alloc hangO).cell? ⟨w.heap.size + 1, j * 2, none⟩ = some (.int .i64 (hLo j)) ∧ ((w.alloc o).alloc hangO).cell? ⟨w.heap.size + 1, j * 2 + 1, none⟩ = some (.int .i64 (hHi j)) := by
 unfold hangO
 obtain rfl | rfl | rfl | rfl : j = 0 ∨ j = 1 ∨ j = 2 ∨ j = 3 := by omega
 all_goals
  constructor <;> (go_simp; try rfl)
theorem covers_bool (x : Rec) (lo hi : Int) : (decide (x.lo ≤ hi) && decide (lo ≤ x.hi)) = coversB x lo hi := rfl
theorem hangul_calls (x : Rec) (A : Option Addr) (c : Nat) (r : Bool) (w : World) (hI : Ints .i32 w A x.to) (hR : Right x) (h : hangulB x = r) :
 Calls Tryz.prog 184 #[recV x A c] w fun e w' => e = .returned (.bool r) ∧ Up w w' := by
 have hu96 := Tryz.underlying113
 have hu197 := Tryz.underlying219
 have HU0 : Up w ((w.alloc (recO x A c)).alloc hangO) := up_alloc (up_alloc (up_refl _) _) _
 have RB : RecBox ((w.alloc (recO x A c)).alloc hangO) w.heap.size x A c := (recBox_new w x A c).keep (up_alloc (up_refl _) _)
 have HC : Az (∀ j, j < 4 → ((w.alloc (recO x A c)).alloc hangO).cell? ⟨w.heap.size + 1, j * 2, none⟩ = some (.int .i64 (hLo j)) ∧ ((w.alloc (recO x A c)).alloc hangO).cell? ⟨w.heap.size + 1, j * 2 + 1, none⟩ = some (.int .i64 (hHi j))) := ⟨hang_cells w _⟩
 have RBA := Az.mk RB
 have HI := Az.mk (Cells.up hI HU0)
 have HU := Az.mk HU0
 have HH := Az.mk h
 have HR := Az.mk hR
 clear hI HU0 RB h hR
 go_enter Tryz.func184, Tryz.ntmps184
 go_wp2
 change Code.wp _ _ _ _ ((w.alloc (recO x A c)).alloc hangO)
 generalize hW : (w.alloc (recO x A c)).alloc hangO = W at HC RBA HI HU
 go_loopg [13] 4 (fun k v13 w' => ∃ j : Nat, v13 = .int .i64 j ∧ Az (j + k = 4 ∧ ∀ q, q < j → coversB x (hLo q) (hHi q) = false) ∧ Az (Up W w'))
 case atStart => exact ⟨0, rfl, ⟨rfl, fun q hq => absurd hq (Nat.not_lt_zero _)⟩, ⟨up_refl _⟩⟩
 case round =>
  obtain ⟨j, rfl, HJ, HB⟩ := hrel
  have hj := HJ.out.1
  cases gk with
  | succ k =>
    have hlt : decide ((j : Int) < 4) = true := dTz (by omega)
    have hln : decide (j < 4) = true := dTz (by omega)
    have p1 : 0 ≤ (j : Int) := by omega
    have p2 : (j : Int) < 4 := by omega
    obtain ⟨k0, k1, k2, k3, k4, k5, k6, k7⟩ := RBA.out.keep (up_alloc HB.out (.cells #[.int .i64 (hLo j), .int .i64 (hHi j)] 219))
    obtain ⟨c0, c1⟩ := HC.out j (by omega)
    replace c0 := up_cell HB.out c0
    replace c1 := up_cell HB.out c1
    have hcv := covers_bool x (hLo j) (hHi j)
    have HCV : Az (coversB x (hLo j) (hHi j) = true → hangulB x = true) := ⟨fun hc => by
     unfold hangulB
     obtain rfl | rfl | rfl | rfl : j = 0 ∨ j = 1 ∨ j = 2 ∨ j = 3 := by omega
     ·rw [show coversB x 4352 4370 = true from hc]; rfl
     ·rw [show coversB x 4449 4469 = true from hc, Bool.or_true]; rfl
     ·rw [show coversB x 4520 4546 = true from hc, Bool.or_true]; rfl
     ·rw [show coversB x 44032 55203 = true from hc, Bool.or_true]; rfl⟩
    cases hc : coversB x (hLo j) (hHi j) with
    | true =>
      have h1 := HCV.out hc
      rw [HH.out] at h1
      subst h1
      rw [hc, Bool.and_eq_true] at hcv
      obtain ⟨b1, b2⟩ := hcv
      clear hc hj
      go_wp2
      go_ret
      exact ⟨rfl, up_trans HU.out (up_alloc HB.out _)⟩
    | false =>
      have HCF := Az.mk hc
      rw [hc] at hcv
      clear hc hj
      rcases Bool.eq_false_or_eq_true (decide (x.lo ≤ hHi j)) with b1 | b1 <;> rcases Bool.eq_false_or_eq_true (decide (hLo j ≤ x.hi)) with b2 | b2
      all_goals
       try (rw [b1, b2] at hcv; cases hcv; done)
      all_goals
       clear hcv
       go_wp2
       go_roundg k
       case measure => have := HJ.out.1; omega
       case rel => exact ⟨j + 1, rfl, ⟨by have := HJ.out.1; omega, fun q hq => by
        by_cases hqj : q = j
        ·subst hqj
         exact HCF.out
        ·exact HJ.out.2 q (by omega)⟩, ⟨up_alloc HB.out _⟩⟩
  | zero =>
    have hlt : decide ((j : Int) < 4) = false := dFz (by omega)
    have hln : decide (j < 4) = false := dFz (by omega)
    obtain ⟨k0, k1, k2, k3, k4, k5, k6, k7⟩ := RBA.out.keep HB.out
    have cv0 : coversB x 4352 4370 = false := HJ.out.2 0 (by omega)
    have cv1 : coversB x 4449 4469 = false := HJ.out.2 1 (by omega)
    have cv2 : coversB x 4520 4546 = false := HJ.out.2 2 (by omega)
    have cv3 : coversB x 44032 55203 = false := HJ.out.2 3 (by omega)
    have hh := HH.out
    unfold hangulB at hh
    rw [cv0, cv1, cv2, cv3] at hh
    have hh2 : (decide (x.kind = 7) && (jl (rd x.to 0) && jv (rd x.to 1) || syl (rd x.to 0) && decide ((rd x.to 0 - 44032) % 28 = 0) && jt (rd x.to 1))) = r := hh
    clear hh cv0 cv1 cv2 cv3 hj HJ HC
    by_cases hk : x.kind = 7
    ·have e7 : (x.kind == 7) = true := by rw [hk]; rfl
     have e7' : (x.kind != 7) = false := by rw [hk]; rfl
     obtain ⟨a, b, hab, va, vb, hlh, hvl⟩ := HR.out.decomp hk
     clear hlh hvl
     have hto := HI.out.up HB.out
     obtain ⟨ad2, hA2, hc0⟩ := hto 0 (.int .i32 a) (by rw [hab]; rfl)
     obtain ⟨ad3, hA3, hc1⟩ := hto 1 (.int .i32 b) (by rw [hab]; rfl)
     rw [hA2] at hA3
     cases hA3
     subst hA2
     replace hc0 : wr.cell? ad2 = some (.int .i32 a) := hc0
     replace hc1 : wr.cell? ⟨ad2.block, ad2.off + 1, none⟩ = some (.int .i32 b) := hc1
     rw [dTz hk, Bool.true_and, show rd x.to 0 = a by rw [hab]; rfl, show rd x.to 1 = b by rw [hab]; rfl, psyl_tmod] at hh2
     have hlen : x.to.length = 2 := by rw [hab]; rfl
     rw [hlen] at k4
     have hav := (validB_iff a).1 va
     have q1 : 0 ≤ a := hav.1
     have q2 : a ≤ 1114111 := hav.2.1
     clear hk hab va vb hto hav hlen
     cases r with
     | true =>
       rcases pjamo_yes hh2 with ⟨j1, j2⟩ | ⟨j12, s1, m1, mm, j3⟩
       ·clear hh2
        go_wp2
        go_quiet (fail)
        go_wp2_with (first | (go_at_call 206; (with_reducible refine (isL_calls a _ _ j1).mono ?_); rintro e w1 ⟨rfl, rfl⟩) | (go_at_call 207; (with_reducible refine (isV_calls b _ _ j2).mono ?_); rintro e w2 ⟨rfl, rfl⟩) | (go_at_call 133; (with_reducible refine (syllable_calls a _ _ s1).mono ?_); rintro e w3 ⟨rfl, rfl⟩) | (go_at_call 208; (with_reducible refine (isT_calls b _ _ j3).mono ?_); rintro e w4 ⟨rfl, rfl⟩))
        go_ret
        exact ⟨rfl, up_trans HU.out (up_drewN HB.out _)⟩
       ·clear hh2
        rcases j12 with j1 | ⟨j1, j2⟩
        all_goals
         go_wp2
         go_quiet (fail)
         go_wp2_with (first | (go_at_call 206; (with_reducible refine (isL_calls a _ _ j1).mono ?_); rintro e w1 ⟨rfl, rfl⟩) | (go_at_call 207; (with_reducible refine (isV_calls b _ _ j2).mono ?_); rintro e w2 ⟨rfl, rfl⟩) | (go_at_call 133; (with_reducible refine (syllable_calls a _ _ s1).mono ?_); rintro e w3 ⟨rfl, rfl⟩) | (go_at_call 208; (with_reducible refine (isT_calls b _ _ j3).mono ?_); rintro e w4 ⟨rfl, rfl⟩))
         go_ret
         exact ⟨rfl, up_trans HU.out (up_drewN HB.out _)⟩
     | false =>
       obtain ⟨hj12, hj3⟩ := pjamo_no hh2
       clear hh2
       rcases hj12 with j1 | ⟨j1, j2⟩ <;> rcases hj3 with s1 | ⟨s1, m1, mm⟩ | ⟨s1, m1, mm, j3⟩
       all_goals
        go_wp2
        go_quiet (fail)
        go_wp2_with (first | (go_at_call 206; (with_reducible refine (isL_calls a _ _ j1).mono ?_); rintro e w1 ⟨rfl, rfl⟩) | (go_at_call 207; (with_reducible refine (isV_calls b _ _ j2).mono ?_); rintro e w2 ⟨rfl, rfl⟩) | (go_at_call 133; (with_reducible refine (syllable_calls a _ _ s1).mono ?_); rintro e w3 ⟨rfl, rfl⟩) | (go_at_call 208; (with_reducible refine (isT_calls b _ _ j3).mono ?_); rintro e w4 ⟨rfl, rfl⟩))
        go_ret
        exact ⟨rfl, up_trans HU.out (up_drewN HB.out _)⟩
    ·have e7 : (x.kind == 7) = false := bqf hk
     have e7' : (x.kind != 7) = true := bne_iff_ne.mpr hk
     rw [dFz hk, Bool.false_and] at hh2
     subst hh2
     clear hk
     go_wp2
     go_ret
     exact ⟨rfl, up_trans HU.out HB.out⟩
end Go.Proofs.YtnohcnneflogjaaGreat.M
namespace Go.Proofs.YtnohcnneflogjaaGreat.M
open Go.RowKit
theorem pairs_calls (A : Option Addr) (c : Nat) (T : List Rec) (x : Rec) (A' : Option Addr) (c' : Nat) (r : Bool) (w : World) (hA : Asked w A T) (hI : Ints .i32 w A' x.to) (hRx : Right x) (hk : x.kind = 7) (hr : pairsB T x = r) :
 Calls Tryz.prog 186 #[.slice A T.length c, recV x A' c'] w fun e w' => e = .returned (.bool r) ∧ Up w w' := by
 have hu96 := Tryz.underlying113
 obtain ⟨a, b, hab, va, vb, hlh, vl⟩ := hRx.decomp hk
 have hp := (validB_iff _).1 va
 have hq := (validB_iff _).1 vb
 have hl0 := (validB_iff _).1 vl
 have RA : Az (-2147483648 ≤ a ∧ a ≤ 2147483647) := ⟨by omega⟩
 have RB : Az (-2147483648 ≤ b ∧ b ≤ 2147483647) := ⟨by omega⟩
 have RL : Az (-2147483648 ≤ x.lo ∧ x.lo ≤ 2147483647) := ⟨by omega⟩
 have RDA : Az (rd x.to 0 = a) := ⟨by rw [hab]; rfl⟩
 have RDB : Az (rd x.to 1 = b) := ⟨by rw [hab]; rfl⟩
 obtain ⟨ad2, hA2, hc0⟩ := hI 0 (.int .i32 a) (by rw [hab]; rfl)
 obtain ⟨ad3, hA3, hc1⟩ := hI 1 (.int .i32 b) (by rw [hab]; rfl)
 rw [hA2] at hA3
 cases hA3
 subst hA2
 have hup : Up w (w.alloc (recO x (some ad2) c')) := up_alloc (up_refl _) _
 replace hc0 : (w.alloc (recO x (some ad2) c')).cell? ad2 = some (.int .i32 a) := up_cell hup hc0
 replace hc1 : (w.alloc (recO x (some ad2) c')).cell? ⟨ad2.block, ad2.off + 1, none⟩ = some (.int .i32 b) := up_cell hup hc1
 have hlen : x.to.length = 2 := by rw [hab]; rfl
 have RBX := Az.mk (recBox_new w x (some ad2) c')
 obtain ⟨k0, k1, k2, k3, k4, k5, k6, k7⟩ := RBX.out
 rw [hlen] at k4
 have p3 : 0 ≤ x.lo := hl0.1
 have p4 : x.lo ≤ 1114111 := hl0.2.1
 have HA := Az.mk hA
 obtain ⟨n1, hn1⟩ : ∃ n, classF T x.lo = n := ⟨_, rfl⟩
 obtain ⟨n2, hn2⟩ : ∃ n, classF T a = n := ⟨_, rfl⟩
 obtain ⟨ob, hob⟩ : ∃ l, openF T b = l := ⟨_, rfl⟩
 obtain ⟨oa, hoa⟩ : ∃ l, openF T a = l := ⟨_, rfl⟩
 obtain ⟨pb, hpb⟩ : ∃ q, primB T a = q := ⟨_, rfl⟩
 have HN1 := Az.mk hn1
 have HN2 := Az.mk hn2
 have HOB := Az.mk hob
 have HOA := Az.mk hoa
 have HP := Az.mk hpb
 have hpr : pairsB T x = (decide (n1 = 0) && decide (n2 = 0) && decide (ob = []) && (decide (oa = []) || pb) && decide (128 ≤ b) && decide (a ≠ 46)) := by
  unfold pairsB
  rw [RDA.out, RDB.out, hn1, hn2, hob, hoa, hpb]
 rw [hpr] at hr
 clear hn1 hn2 hob hoa hpb hpr hlen hab va vb hlh vl hRx hA hp hq hl0 hup hI hk RDA RDB
 by_cases kk1 : n1 = 0
 ·have t1 : (n1 == 0) = true := beq_iff_eq.mpr kk1
  have t1' : (n1 != 0) = false := by rw [bne, t1]; rfl
  rw [dTz kk1, Bool.true_and] at hr
  clear kk1
  by_cases kk2 : n2 = 0
  ·have t2 : (n2 == 0) = true := beq_iff_eq.mpr kk2
   have t2' : (n2 != 0) = false := by rw [bne, t2]; rfl
   rw [dTz kk2, Bool.true_and] at hr
   clear kk2
   by_cases kk3 : ob = []
   ·have t3 : ((ob.length : Int) == 0) = true := by rw [kk3]; rfl
    have t3' : (ob.length == 0) = true := by rw [kk3]; rfl
    have t3'' : decide ((ob.length : Int) = 0) = true := by rw [kk3]; rfl
    rw [dTz kk3, Bool.true_and] at hr
    clear kk3
    cases kk4 : (decide (oa = []) || pb) with
    | true =>
      have t4 : (((oa.length : Int) == 0) = true ∧ (oa.length == 0) = true ∧ decide ((oa.length : Int) = 0) = true) ∨ (((oa.length : Int) == 0) = false ∧ (oa.length == 0) = false ∧ decide ((oa.length : Int) = 0) = false ∧ pb = true) := by
       by_cases h : oa = []
       ·left; rw [h]; simp
       ·right
        have hp : 0 < oa.length := List.length_pos_iff.2 h
        rw [dFz h, Bool.false_or] at kk4
        exact ⟨bqf (by omega), bqf (by omega), dFz (by omega), kk4⟩
      rw [kk4, Bool.true_and] at hr
      clear kk4
      by_cases kk5 : 128 ≤ b
      ·have t5 : decide (128 ≤ b) = true := dTz (by omega)
       rw [dTz kk5, Bool.true_and] at hr
       have t6 : (a != 46) = r := by rw [← hr]; by_cases h : a = 46 <;> simp [h]
       clear kk5 hr
       cases r
       all_goals
        rcases t4 with ⟨t4, t4', t4''⟩ | ⟨t4, t4', t4'', rfl⟩
        all_goals
         go_enter Tryz.func186, Tryz.ntmps186
         go_wp2
         go_quiet (fail)
         have HB0 : Az (Up w ((w.alloc (recO x (some ad2) c')).drewN nq)) := ⟨up_drewN (up_alloc (up_refl _) _) _⟩
         go_wp2_with (first | (go_at_call 209; (with_reducible refine (Primary_calls A c T a _ (HA.out.up HB0.out).tab HA.out.right HA.out.wf HA.out.len RA.out.1 RA.out.2 _ HP.out).mono ?_); rintro e w1 ⟨xx, yy, rfl, hb1⟩; have HB1 := Az.mk (up_trans HB0.out hb1); obtain ⟨k0, k1, k2, k3, k4, k5, k6, k7⟩ := RBX.out.keep (up_trans (up_drewN (up_refl _) _) hb1)) | (go_at_call 185; (with_reducible refine (Class_calls A c T x.lo _ (HA.out.up HB1.out).tab HA.out.right HA.out.wf HA.out.len RL.out.1 RL.out.2 n1 HN1.out).mono ?_); rintro e w2 ⟨rfl, hb2⟩; have HB2 := Az.mk (up_trans HB1.out hb2)) | (go_at_call 185; (with_reducible refine (Class_calls A c T a _ (HA.out.up HB2.out).tab HA.out.right HA.out.wf HA.out.len RA.out.1 RA.out.2 n2 HN2.out).mono ?_); rintro e w3 ⟨rfl, hb3⟩; have HB3 := Az.mk (up_trans HB2.out hb3)) | (go_at_call 83; (with_reducible refine (Open_calls A c T b _ (HA.out.up HB3.out).tab HA.out.right HA.out.wf HA.out.len RB.out.1 RB.out.2).mono ?_); rintro e w4 ⟨v4, rfl, hown4, hb4⟩; rw [HOB.out] at hown4; obtain ⟨A4, c4, rfl⟩ := own_any hown4; clear hown4; have HB4 := Az.mk (up_trans HB3.out hb4)) | (go_at_call 83; (with_reducible refine (Open_calls A c T a _ (HA.out.up HB4.out).tab HA.out.right HA.out.wf HA.out.len RA.out.1 RA.out.2).mono ?_); rintro e w5 ⟨v5, rfl, hown5, hb5⟩; rw [HOA.out] at hown5; obtain ⟨A5, c5, rfl⟩ := own_any hown5; clear hown5; have HB5 := Az.mk (up_trans HB4.out hb5)))
         go_ret
         exact ⟨rfl, HB5.out⟩
      ·have t5 : decide (128 ≤ b) = false := dFz (by omega)
       rw [dFz kk5] at hr
       simp only [Bool.false_and] at hr
       subst hr
       clear kk5
       rcases t4 with ⟨t4, t4', t4''⟩ | ⟨t4, t4', t4'', rfl⟩
       all_goals
        go_enter Tryz.func186, Tryz.ntmps186
        go_wp2
        go_quiet (fail)
        have HB0 : Az (Up w ((w.alloc (recO x (some ad2) c')).drewN nq)) := ⟨up_drewN (up_alloc (up_refl _) _) _⟩
        go_wp2_with (first | (go_at_call 209; (with_reducible refine (Primary_calls A c T a _ (HA.out.up HB0.out).tab HA.out.right HA.out.wf HA.out.len RA.out.1 RA.out.2 _ HP.out).mono ?_); rintro e w1 ⟨xx, yy, rfl, hb1⟩; have HB1 := Az.mk (up_trans HB0.out hb1); obtain ⟨k0, k1, k2, k3, k4, k5, k6, k7⟩ := RBX.out.keep (up_trans (up_drewN (up_refl _) _) hb1)) | (go_at_call 185; (with_reducible refine (Class_calls A c T x.lo _ (HA.out.up HB1.out).tab HA.out.right HA.out.wf HA.out.len RL.out.1 RL.out.2 n1 HN1.out).mono ?_); rintro e w2 ⟨rfl, hb2⟩; have HB2 := Az.mk (up_trans HB1.out hb2)) | (go_at_call 185; (with_reducible refine (Class_calls A c T a _ (HA.out.up HB2.out).tab HA.out.right HA.out.wf HA.out.len RA.out.1 RA.out.2 n2 HN2.out).mono ?_); rintro e w3 ⟨rfl, hb3⟩; have HB3 := Az.mk (up_trans HB2.out hb3)) | (go_at_call 83; (with_reducible refine (Open_calls A c T b _ (HA.out.up HB3.out).tab HA.out.right HA.out.wf HA.out.len RB.out.1 RB.out.2).mono ?_); rintro e w4 ⟨v4, rfl, hown4, hb4⟩; rw [HOB.out] at hown4; obtain ⟨A4, c4, rfl⟩ := own_any hown4; clear hown4; have HB4 := Az.mk (up_trans HB3.out hb4)) | (go_at_call 83; (with_reducible refine (Open_calls A c T a _ (HA.out.up HB4.out).tab HA.out.right HA.out.wf HA.out.len RA.out.1 RA.out.2).mono ?_); rintro e w5 ⟨v5, rfl, hown5, hb5⟩; rw [HOA.out] at hown5; obtain ⟨A5, c5, rfl⟩ := own_any hown5; clear hown5; have HB5 := Az.mk (up_trans HB4.out hb5)))
        go_ret
        exact ⟨rfl, HB5.out⟩
    | false =>
      rw [kk4] at hr
      simp only [Bool.false_and] at hr
      subst hr
      have kk4' := kk4
      rw [Bool.or_eq_false_iff] at kk4
      obtain ⟨kk5, rfl⟩ := kk4
      have hp : 0 < oa.length := List.length_pos_iff.2 (of_decide_eq_false kk5)
      have t4 : ((oa.length : Int) == 0) = false := bqf (by omega)
      have t4' : (oa.length == 0) = false := bqf (by omega)
      have t4'' : decide ((oa.length : Int) = 0) = false := dFz (by omega)
      clear kk4' kk5 hp
      go_enter Tryz.func186, Tryz.ntmps186
      go_wp2
      go_quiet (fail)
      have HB0 : Az (Up w ((w.alloc (recO x (some ad2) c')).drewN nq)) := ⟨up_drewN (up_alloc (up_refl _) _) _⟩
      go_wp2_with (first | (go_at_call 209; (with_reducible refine (Primary_calls A c T a _ (HA.out.up HB0.out).tab HA.out.right HA.out.wf HA.out.len RA.out.1 RA.out.2 _ HP.out).mono ?_); rintro e w1 ⟨xx, yy, rfl, hb1⟩; have HB1 := Az.mk (up_trans HB0.out hb1); obtain ⟨k0, k1, k2, k3, k4, k5, k6, k7⟩ := RBX.out.keep (up_trans (up_drewN (up_refl _) _) hb1)) | (go_at_call 185; (with_reducible refine (Class_calls A c T x.lo _ (HA.out.up HB1.out).tab HA.out.right HA.out.wf HA.out.len RL.out.1 RL.out.2 n1 HN1.out).mono ?_); rintro e w2 ⟨rfl, hb2⟩; have HB2 := Az.mk (up_trans HB1.out hb2)) | (go_at_call 185; (with_reducible refine (Class_calls A c T a _ (HA.out.up HB2.out).tab HA.out.right HA.out.wf HA.out.len RA.out.1 RA.out.2 n2 HN2.out).mono ?_); rintro e w3 ⟨rfl, hb3⟩; have HB3 := Az.mk (up_trans HB2.out hb3)) | (go_at_call 83; (with_reducible refine (Open_calls A c T b _ (HA.out.up HB3.out).tab HA.out.right HA.out.wf HA.out.len RB.out.1 RB.out.2).mono ?_); rintro e w4 ⟨v4, rfl, hown4, hb4⟩; rw [HOB.out] at hown4; obtain ⟨A4, c4, rfl⟩ := own_any hown4; clear hown4; have HB4 := Az.mk (up_trans HB3.out hb4)) | (go_at_call 83; (with_reducible refine (Open_calls A c T a _ (HA.out.up HB4.out).tab HA.out.right HA.out.wf HA.out.len RA.out.1 RA.out.2).mono ?_); rintro e w5 ⟨v5, rfl, hown5, hb5⟩; rw [HOA.out] at hown5; obtain ⟨A5, c5, rfl⟩ := own_any hown5; clear hown5; have HB5 := Az.mk (up_trans HB4.out hb5)))
      go_ret
      exact ⟨rfl, HB5.out⟩
   ·have hp : 0 < ob.length := List.length_pos_iff.2 kk3
    have t3 : ((ob.length : Int) == 0) = false := bqf (by omega)
    have t3' : (ob.length == 0) = false := bqf (by omega)
    have t3'' : decide ((ob.length : Int) = 0) = false := dFz (by omega)
    rw [dFz kk3] at hr
    simp only [Bool.false_and] at hr
    subst hr
    clear kk3 hp
    go_enter Tryz.func186, Tryz.ntmps186
    go_wp2
    go_quiet (fail)
    have HB0 : Az (Up w ((w.alloc (recO x (some ad2) c')).drewN nq)) := ⟨up_drewN (up_alloc (up_refl _) _) _⟩
    go_wp2_with (first | (go_at_call 209; (with_reducible refine (Primary_calls A c T a _ (HA.out.up HB0.out).tab HA.out.right HA.out.wf HA.out.len RA.out.1 RA.out.2 _ HP.out).mono ?_); rintro e w1 ⟨xx, yy, rfl, hb1⟩; have HB1 := Az.mk (up_trans HB0.out hb1); obtain ⟨k0, k1, k2, k3, k4, k5, k6, k7⟩ := RBX.out.keep (up_trans (up_drewN (up_refl _) _) hb1)) | (go_at_call 185; (with_reducible refine (Class_calls A c T x.lo _ (HA.out.up HB1.out).tab HA.out.right HA.out.wf HA.out.len RL.out.1 RL.out.2 n1 HN1.out).mono ?_); rintro e w2 ⟨rfl, hb2⟩; have HB2 := Az.mk (up_trans HB1.out hb2)) | (go_at_call 185; (with_reducible refine (Class_calls A c T a _ (HA.out.up HB2.out).tab HA.out.right HA.out.wf HA.out.len RA.out.1 RA.out.2 n2 HN2.out).mono ?_); rintro e w3 ⟨rfl, hb3⟩; have HB3 := Az.mk (up_trans HB2.out hb3)) | (go_at_call 83; (with_reducible refine (Open_calls A c T b _ (HA.out.up HB3.out).tab HA.out.right HA.out.wf HA.out.len RB.out.1 RB.out.2).mono ?_); rintro e w4 ⟨v4, rfl, hown4, hb4⟩; rw [HOB.out] at hown4; obtain ⟨A4, c4, rfl⟩ := own_any hown4; clear hown4; have HB4 := Az.mk (up_trans HB3.out hb4)))
    go_ret
    exact ⟨rfl, HB4.out⟩
  ·have t2 : (n2 == 0) = false := bqf kk2
   have t2' : (n2 != 0) = true := bne_iff_ne.mpr kk2
   rw [dFz kk2] at hr
   simp only [Bool.false_and] at hr
   subst hr
   clear kk2
   go_enter Tryz.func186, Tryz.ntmps186
   go_wp2
   go_quiet (fail)
   have HB0 : Az (Up w ((w.alloc (recO x (some ad2) c')).drewN nq)) := ⟨up_drewN (up_alloc (up_refl _) _) _⟩
   go_wp2_with (first | (go_at_call 209; (with_reducible refine (Primary_calls A c T a _ (HA.out.up HB0.out).tab HA.out.right HA.out.wf HA.out.len RA.out.1 RA.out.2 _ HP.out).mono ?_); rintro e w1 ⟨xx, yy, rfl, hb1⟩; have HB1 := Az.mk (up_trans HB0.out hb1); obtain ⟨k0, k1, k2, k3, k4, k5, k6, k7⟩ := RBX.out.keep (up_trans (up_drewN (up_refl _) _) hb1)) | (go_at_call 185; (with_reducible refine (Class_calls A c T x.lo _ (HA.out.up HB1.out).tab HA.out.right HA.out.wf HA.out.len RL.out.1 RL.out.2 n1 HN1.out).mono ?_); rintro e w2 ⟨rfl, hb2⟩; have HB2 := Az.mk (up_trans HB1.out hb2)) | (go_at_call 185; (with_reducible refine (Class_calls A c T a _ (HA.out.up HB2.out).tab HA.out.right HA.out.wf HA.out.len RA.out.1 RA.out.2 n2 HN2.out).mono ?_); rintro e w3 ⟨rfl, hb3⟩; have HB3 := Az.mk (up_trans HB2.out hb3)))
   go_ret
   exact ⟨rfl, HB3.out⟩
 ·have t1 : (n1 == 0) = false := bqf kk1
  have t1' : (n1 != 0) = true := bne_iff_ne.mpr kk1
  rw [dFz kk1] at hr
  simp only [Bool.false_and] at hr
  subst hr
  clear kk1
  go_enter Tryz.func186, Tryz.ntmps186
  go_wp2
  go_quiet (fail)
  have HB0 : Az (Up w ((w.alloc (recO x (some ad2) c')).drewN nq)) := ⟨up_drewN (up_alloc (up_refl _) _) _⟩
  go_wp2_with (first | (go_at_call 209; (with_reducible refine (Primary_calls A c T a _ (HA.out.up HB0.out).tab HA.out.right HA.out.wf HA.out.len RA.out.1 RA.out.2 _ HP.out).mono ?_); rintro e w1 ⟨xx, yy, rfl, hb1⟩; have HB1 := Az.mk (up_trans HB0.out hb1); obtain ⟨k0, k1, k2, k3, k4, k5, k6, k7⟩ := RBX.out.keep (up_trans (up_drewN (up_refl _) _) hb1)) | (go_at_call 185; (with_reducible refine (Class_calls A c T x.lo _ (HA.out.up HB1.out).tab HA.out.right HA.out.wf HA.out.len RL.out.1 RL.out.2 n1 HN1.out).mono ?_); rintro e w2 ⟨rfl, hb2⟩; have HB2 := Az.mk (up_trans HB1.out hb2)))
  go_ret
  exact ⟨rfl, HB2.out⟩
end Go.Proofs.YtnohcnneflogjaaGreat.M
