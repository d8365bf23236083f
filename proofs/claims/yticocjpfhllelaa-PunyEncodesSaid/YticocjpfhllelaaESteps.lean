/- The walk of puny.steps. -/
import Derived.Test.YticocjpfhllelaaESteps0
import Derived.Test.YticocjpfhllelaaEStep
import Derived.WalkMore
import Derived.IntWalk
import Derived.Deep.RegionLaw
import Derived.Test.YticocjpfhllelaaERow
import Derived.Outline
namespace Go.Proofs.Yticocjpfhllelaa.XP
attribute [local go_sem] Go.Proofs.YticocjpfhllelaaW.PrintMore.max2_int Go.Proofs.YticocjpfhllelaaW.PrintMore.min2_int Go.Proofs.YticocjpfhllelaaW.PrintMore.max_two Go.Proofs.YticocjpfhllelaaW.PrintMore.min_two
open Go.RowKit Go.Proofs.YticocjpfhllelaaW.PrintWords Go.Proofs.YticocjpfhllelaaW.PrintLast Go.Proofs.YticocjpfhllelaaW.PrintMore

/-- What holds at the labels. -/
structure InvS (P0_ : Nat → Prop) (w0 w : World) (l0 : List Int) (a1 : ByteArray) (r : List Int × Int) (fresh : Bool) (w' : World) (u : Value) (xs : List Int) (g : Nat) (i n ii bias st k num wt : Int) : Prop where
  R : Kd.R (Kd.int .i32) 21 w' w0.heap.size (fun k_ => (P0_ k_ ∨ w.heap.size ≤ k_)) u xs
  S : St w' g xs.length n ii bias st
  G : w.heap.size ≤ g
  B : Below w0.heap.size w0 w'
  K : Kept w w' (fun k_ => P0_ k_)
  i0 : 0 ≤ i
  i1 : i ≤ a1.size
  run : runD ((bytesOf a1).drop i.toNat) xs n ii bias st k num wt fresh = r
  n0 : 0 ≤ n
  n1 : n ≤ 1114111
  ii0 : 0 ≤ ii
  ii1 : ii ≤ xs.length
  b0 : 0 ≤ bias
  b1 : bias ≤ 800
  s0 : 0 ≤ st
  s1 : st ≤ i
  k0 : 1 ≤ k
  k1 : k ≤ i + 1
  m0 : 0 ≤ num
  m1 : num ≤ 2147483648
  w0' : 1 ≤ wt
  w1 : wt ≤ 2147483648
  xl : (xs.length : Int) ≤ l0.length + i


/-- The frames at the labels. -/
def fr0 (u : Value) (a1 : ByteArray) (g : Nat) (i : Int) (U : Nat → Value) : Act := { tmps := #[u, .string a1, U 2, U 3, .slice none 0 0, .int .i64 0, .pointer (some ⟨g, 0, none⟩), .int .i64 i, U 8, U 9, U 10, U 11, U 12, U 13, U 14, U 15, U 16, U 17, U 18, U 19, U 20, U 21, U 22, U 23, U 24, U 25, U 26, U 27, U 28, U 29, U 30, U 31, U 32, U 33, U 34, U 35, U 36, U 37, U 38, U 39, U 40, U 41, U 42, U 43, U 44, U 45, U 46, U 47, U 48, U 49, U 50, U 51, U 52, U 53, U 54, U 55, U 56, U 57, U 58, U 59, U 60, U 61, U 62, U 63, U 64, U 65, U 66, U 67, U 68, U 69, U 70, U 71, U 72, U 73, U 74, U 75, U 76, U 77, U 78, U 79, U 80, U 81, U 82, U 83, U 84, U 85, U 86], defers := [] }
def fr1 (u : Value) (a1 : ByteArray) (g : Nat) (i k num wt : Int) (U : Nat → Value) : Act := { tmps := #[u, .string a1, U 2, U 3, .slice none 0 0, .int .i64 0, .pointer (some ⟨g, 0, none⟩), .int .i64 i, .int .i64 k, .int .i64 num, .int .i64 wt, U 11, U 12, U 13, U 14, U 15, U 16, U 17, U 18, U 19, U 20, U 21, U 22, U 23, U 24, U 25, U 26, U 27, U 28, U 29, U 30, U 31, U 32, U 33, U 34, U 35, U 36, U 37, U 38, U 39, U 40, U 41, U 42, U 43, U 44, U 45, U 46, U 47, U 48, U 49, U 50, U 51, U 52, U 53, U 54, U 55, U 56, U 57, U 58, U 59, U 60, U 61, U 62, U 63, U 64, U 65, U 66, U 67, U 68, U 69, U 70, U 71, U 72, U 73, U 74, U 75, U 76, U 77, U 78, U 79, U 80, U 81, U 82, U 83, U 84, U 85, U 86], defers := [] }
/-- What holds at the labels, of the whole frame. -/
def JS (P0_ : Nat → Prop) (w0 w : World) (l0 : List Int) (a1 : ByteArray) (r : List Int × Int) (l : Nat) (a' : Act) (w' : World) : Prop :=
  (l = 0 ∧ ∃ (xs : List Int) (u : Value) (g : Nat) (i n ii bias st : Int), a' = fr0 u a1 g i (fun k => a'.tmps.getD k undef) ∧ InvS P0_ w0 w l0 a1 r true w' u xs g i n ii bias st 1 0 1) ∨
  (l = 1 ∧ ∃ (xs : List Int) (u : Value) (g : Nat) (i n ii bias st k num wt : Int), a' = fr1 u a1 g i k num wt (fun k => a'.tmps.getD k undef) ∧ InvS P0_ w0 w l0 a1 r false w' u xs g i n ii bias st k num wt)
theorem JS.at {P0_ : Nat → Prop} {w0 w : World} {l0 : List Int} {a1 : ByteArray} {r : List Int × Int} {l : Nat} {a' : Act} {w' : World} (h : JS P0_ w0 w l0 a1 r l a' w') :
    Go.RowKit.intOf (a'.tmps.getD 7 undef) ≤ a1.size := by
  rcases h with ⟨hl, xs, u, g, i, n, ii, bias, st, ha, hI⟩ | ⟨hl, xs, u, g, i, n, ii, bias, st, k, num, wt, ha, hI⟩
  · rw [ha]
    exact hI.i1
  · rw [ha]
    exact hI.i1


theorem bytes_drop (s : ByteArray) (i : Int) (h0 : 0 ≤ i) (h1 : i < s.size) : (bytesOf s).drop i.toNat = bt s i :: (bytesOf s).drop (i + 1).toNat := by
  obtain ⟨m, rfl⟩ := Int.eq_ofNat_of_zero_le h0
  have hm : m < s.size := by omega
  have e : ((m : Int) + 1).toNat = m + 1 := by omega
  rw [Int.toNat_natCast, e]
  rw [List.drop_eq_getElem_cons (by rw [bytesOf_length]; exact hm)]
  congr 1
  unfold bt bytesOf
  simp only [Int.toNat_natCast]
  rw [dif_pos hm]
  simp
  rfl
theorem bytes_end (s : ByteArray) (i : Int) (h : s.size ≤ i) : (bytesOf s).drop i.toNat = [] := by
  rw [List.drop_eq_nil_iff, bytesOf_length]; omega
theorem bt_range (s : ByteArray) (i : Int) : 0 ≤ bt s i ∧ bt s i < 256 := by
  unfold bt
  split
  · have := UInt8.toNat_lt (s[i.toNat]); omega
  · omega


def scopeOf : Code → Option Code
  | .scope c => some c
  | .seq a b => (scopeOf a).orElse (fun _ => scopeOf b)
  | _ => none
def strip : Code → Code
  | .seq .skip b => b
  | c => c
noncomputable def restS (l : Nat) : Code := strip ((findLabel (((Try.f35.body).bind scopeOf).getD .skip) l).getD .skip)

/-- How the function ends. -/
def EndS (P0_ : Nat → Prop) (w0 w : World) (r : List Int × Int) (e : Ending) (w' : World) : Prop :=
  ∃ v0_ : Value, e = .returned (.tuple #[v0_, .int .i64 r.2]) ∧ Kd.R (Kd.int .i32) 21 w' w0.heap.size (fun k_ => (P0_ k_ ∨ w.heap.size ≤ k_)) v0_ r.1 ∧ Below w0.heap.size w0 w' ∧ Kept w w' (fun k_ => P0_ k_)

set_option maxHeartbeats 2000000 in
set_option maxRecDepth 100000 in
theorem read_wp (P0_ : Nat → Prop) (w0 w : World) (l0 : List Int) (a1 : ByteArray) (r : List Int × Int) (hl0 : l0.length ≤ 65536) (hl1 : a1.size ≤ 65536) (hw0w : w0.heap.size ≤ w.heap.size) (J' : Nat → Act → World → Prop)
    (w' : World) (xs : List Int) (u : Value) (g : Nat) (i n ii bias st k num wt : Int) (fr : Bool) (hI : InvS P0_ w0 w l0 a1 r fr w' u xs g i n ii bias st k num wt) (hfr : i = a1.size → fr = false)
    (hJ : ∀ l a' w', JS P0_ w0 w l0 a1 r l a' w' → i < intOf (a'.tmps.getD 7 undef) → J' l a' w')
    (a0 : Act) (ha0 : a0 = fr1 u a1 g i k num wt (fun k => a0.tmps.getD k undef)) : (restS 1).wp Try.prog (Exit.jumps (fun l => l = 0 ∨ l = 1) J' (bodyPost Try.prog Try.f35 (EndS P0_ w0 w r))) a0 w' := by
  rw [ha0]
  generalize (fun k => a0.tmps.getD k undef) = U
  clear ha0 a0
  unfold fr1
  have HI := Aside0.mk hI
  have HFR := Aside0.mk hfr
  have HW0 := Aside0.mk hw0w
  clear hw0w
  have HJ := Aside0.mk hJ
  obtain ⟨A0, c0, e0⟩ := Kd.R_slice hI.R
  subst e0
  have p1 := hI.i0
  have q1 := hI.i1
  clear hI hfr hJ
  change Code.wp _ (Code.seq _ _) _ _ _
  by_cases c1 : i = a1.size
  · have c1b : (i == (a1.size : Int)) = true := beq_iff_eq.2 c1
    have C1 := Aside0.mk c1
    clear c1
    go_wp2_with (fail)
    simp only [Exit.jumps]
    go_ret2
    have hr := HI.out.run
    rw [bytes_end a1 i (by have := C1.out; omega), runD, if_neg (by rw [HFR.out C1.out]; simp)] at hr
    subst hr
    exact ⟨_, rfl, Kd.R_nil _ _ _ _ _, HI.out.B, HI.out.K⟩
  · have c1b : (i == (a1.size : Int)) = false := beq_eq_false_iff_ne.2 c1
    have q2 : i < a1.size := by omega
    have HRUN : Aside0 (runD (bt a1 i :: (bytesOf a1).drop (i + 1).toNat) xs n ii bias st k num wt fr = r) := ⟨by rw [← bytes_drop a1 i p1 q2]; exact HI.out.run⟩
    clear c1
    have hx := bt_at a1 i
    have p1e := eq_true p1
    have q2e := eq_true q2
    go_wp2_with (fail)
    refine (puny_value.calls 2 (bt a1 i) (dval (bt a1 i)) _ (value_f _ (bt_range a1 i).1 (bt_range a1 i).2 2 (by omega))).mono ?_
    rintro e w1 ⟨rfl, ⟨nd, rfl⟩⟩
    clear hx
    have hdb := dval_bound (bt a1 i)
    generalize hd : dval (bt a1 i) = d at hdb
    have HD := Aside0.mk hd
    clear hd
    obtain ⟨hd0, hd1⟩ := hdb
    by_cases c2 : d < 0
    · have c2b : decide (d < 0) = true := decide_eq_true c2
      go_wp2_with (fail)
      simp only [Exit.jumps]
      go_ret2
      have hr := HRUN.out
      rw [runD, HD.out, if_pos c2] at hr
      subst hr
      exact ⟨_, rfl, Kd.R_nil _ _ _ _ _, pw_below_drewN HI.out.B _, Kept.drewN HI.out.K _⟩
    · have c2b : decide (d < 0) = false := decide_eq_false c2
      have hw0 := HI.out.w0'
      have hw1 := HI.out.w1
      have hm0 := HI.out.m0
      have hm1 := HI.out.m1
      have hd2 : 0 ≤ d := by omega
      have hdw0 : 0 ≤ d * wt := Int.mul_nonneg hd2 (by omega)
      have hdw1 : d * wt ≤ 75161927680 := Int.le_trans (Int.mul_le_mul hd1 hw1 (by omega) (by omega)) (by omega)
      clear hd0
      go_upto_if 36 with (fail)
      go_cut [9] from 36 to 42 (fun v9 wc => v9 = .int .i64 (if 0 < d then min (num + d * wt) 2147483648 else num) ∧ wc = w'.drewN nd)
      case first =>
        by_cases c3 : 0 < d
        · have c3b : decide (0 < d) = true := decide_eq_true c3
          go_wp2
          all_goals
            go_meet
            rw [if_pos c3]
            exact ⟨by congr 1; omega, rfl⟩
        · have c3b : decide (0 < d) = false := decide_eq_false c3
          go_wp2
          go_meet
          rw [if_neg (show ¬ 0 < d by omega)]
          exact ⟨rfl, rfl⟩
      case rest =>
        obtain ⟨rfl, rfl⟩ := hcut
        have hnn : 0 ≤ (if 0 < d then min (num + d * wt) 2147483648 else num) ∧ (if 0 < d then min (num + d * wt) 2147483648 else num) ≤ 2147483648 := by split <;> omega
        generalize hnum : (if 0 < d then min (num + d * wt) 2147483648 else num) = num' at hnn
        have HNUM := Aside0.mk hnum
        clear hnum
        obtain ⟨hn0, hn1⟩ := hnn
        have g3 := (blk_cell HI.out.S 3).trans (show _ = some (Value.int .i64 bias) from rfl)
        have hk0 := HI.out.k0
        have hk1 := HI.out.k1
        have hb0 := HI.out.b0
        have hb1 := HI.out.b1
        go_wp2_with (fail)
        refine (puny_threshold.calls k bias (thr k bias) _ (thr_f k bias (by omega) (by omega) (by omega) (by omega))).mono ?_
        rintro e w1 ⟨rfl, hbb⟩
        have HW1 := Aside0.mk hbb
        clear hbb g3
        have htb := thr_bound k bias
        generalize ht : thr k bias = t at htb
        have HT := Aside0.mk ht
        clear ht
        obtain ⟨ht0, ht1⟩ := htb
        by_cases c4 : t ≤ d
        · have c4b : decide (t ≤ d) = true := decide_eq_true c4
          have hwt0 : 0 < wt * (36 - t) := Int.mul_pos (by omega) (by omega)
          have hwt1 : wt * (36 - t) ≤ 75161927680 := Int.le_trans (Int.mul_le_mul hw1 (show 36 - t ≤ 35 by omega) (by omega) (by omega)) (by omega)
          go_wp2_with (fail)
          all_goals
            refine wp_goto ⟨.inr rfl, HJ.out 1 _ _ (Or.inr ⟨rfl, xs, _, g, i + 1, n, ii, bias, st, k + 1, num', _, rfl, ?_⟩) ?_⟩
            · have hr := HRUN.out
              rw [runD, HD.out, if_neg (show ¬ d < 0 by omega), HT.out, HNUM.out] at hr
              simp only at hr
              rw [if_pos c4] at hr
              exact { R := Kd.R_below (Kd.R_drewN HI.out.R _) HW1.out, S := blk_below (blk_drewN HI.out.S _) HW1.out, G := HI.out.G, B := below_step (pw_below_drewN HI.out.B _) HW1.out, K := Kept.below (Kept.drewN HI.out.K _) HW1.out, i0 := by omega, i1 := by omega, run := by rw [← hr]; congr 1; omega, n0 := HI.out.n0, n1 := HI.out.n1, ii0 := HI.out.ii0, ii1 := HI.out.ii1, b0 := hb0, b1 := hb1, s0 := HI.out.s0, s1 := by have := HI.out.s1; omega, k0 := by omega, k1 := by omega, m0 := hn0, m1 := hn1, w0' := by omega, w1 := by omega, xl := by have := HI.out.xl; omega }
            · show i < i + 1
              omega
        · have c4b : decide (t ≤ d) = false := decide_eq_false c4
          by_cases c5 : 2147483647 < num'
          · have c5b : decide (2147483647 < num') = true := decide_eq_true c5
            go_wp2_with (fail)
            simp only [Exit.jumps]
            go_ret2
            have hr := HRUN.out
            rw [runD, HD.out, if_neg (show ¬ d < 0 by omega), HT.out, HNUM.out] at hr
            simp only at hr
            rw [if_neg (show ¬ t ≤ d by omega), if_pos c5] at hr
            subst hr
            exact ⟨_, rfl, Kd.R_nil _ _ _ _ _, below_step (pw_below_drewN HI.out.B _) HW1.out, Kept.below (Kept.drewN HI.out.K _) HW1.out⟩
          · have c5b : decide (2147483647 < num') = false := decide_eq_false c5
            have hx0 := HI.out.xl
            have hii0 := HI.out.ii0
            have hii1 := HI.out.ii1
            have hs0 := HI.out.s0
            have hs1 := HI.out.s1
            have hN0 := HI.out.n0
            have hN1 := HI.out.n1
            go_wp2_with (fail)
            refine (step_calls g xs.length n ii bias st num' (adaptI num' (xs.length + 1) (st == 0)) _ (blk_below (blk_drewN HI.out.S _) HW1.out) (by omega) (by omega) hN0 (by omega) hii0 (by omega) hn0 (by omega) hs0 (by omega) 22 (adapt_f _ _ _ (by omega) (by omega) 22 (by omega))).mono ?_
            rintro e w2 ⟨rfl, hS2, hK2, hB2⟩
            have HS2 := Aside0.mk hS2
            have hlt2 : w0.heap.size ≤ g := Nat.le_trans (below_size HI.out.B |> fun _ => HW0.out) HI.out.G
            have HB2 : Aside0 (Below w0.heap.size w0 w2) := ⟨(below_step (pw_below_drewN HI.out.B _) HW1.out).trans (hB2.mono hlt2)⟩
            have HK2 : Aside0 (Kept w w2 (fun k_ => P0_ k_)) := ⟨Kept.of_keep (Kept.below (Kept.drewN HI.out.K _) HW1.out) hK2 (.inr HI.out.G)⟩
            have HR2 : Aside0 (Kd.R (Kd.int .i32) 21 w2 w0.heap.size (fun k_ => (P0_ k_ ∨ w.heap.size ≤ k_)) (.slice A0 xs.length c0) xs) :=
              ⟨Kd.R_mono (Kd.R_keep (Kd.R_types (Kd.R_below (Kd.R_drewN HI.out.R nd) HW1.out) (blk_below (blk_drewN HI.out.S nd) HW1.out) (by decide)) hK2 (fun _ hk => hk.2)) (fun _ hk => hk.1)⟩
            clear hS2 hK2 hB2 hlt2
            have hc0 : 0 ≤ (ii + num') / ((xs.length : Int) + 1) := Int.ediv_nonneg (by omega) (by omega)
            have hc1 : (ii + num') / ((xs.length : Int) + 1) ≤ 2200000000 := Int.le_trans (Int.ediv_le_self _ (by omega)) (by omega)
            have ha0 : 0 ≤ (ii + num') % ((xs.length : Int) + 1) := Int.emod_nonneg _ (by omega)
            have ha1 : (ii + num') % ((xs.length : Int) + 1) < xs.length + 1 := Int.emod_lt_of_pos _ (by omega)
            generalize hc : n + (ii + num') / ((xs.length : Int) + 1) = c at HS2
            generalize ha : (ii + num') % ((xs.length : Int) + 1) = at_ at HS2 ha0 ha1
            have hc2 : 0 ≤ c := by omega
            have hc3 : c ≤ 2300000000 := by omega
            have HC := Aside0.mk hc
            have HA := Aside0.mk ha
            clear hc ha hc0 hc1
            by_cases c6 : c ≤ 1114111
            · have c6b : decide (c ≤ 1114111) = true := decide_eq_true c6
              go_wp2_with (fail)
              refine (scalar_Valid.calls c (validI c) _ (valid_f c)).mono ?_
              rintro e w3 ⟨rfl, ⟨nd3, rfl⟩⟩
              cases hv : validI c
              · go_wp2_with (fail)
                simp only [Exit.jumps]
                go_ret2
                have hr := HRUN.out
                rw [runD, HD.out, if_neg (show ¬ d < 0 by omega), HT.out, HNUM.out] at hr
                simp only at hr
                rw [if_neg (show ¬ t ≤ d by omega), if_neg (show ¬ 2147483647 < num' by omega), HC.out, if_neg (by rw [hv]; simp)] at hr
                subst hr
                exact ⟨_, rfl, Kd.R_nil _ _ _ _ _, pw_below_drewN HB2.out _, Kept.drewN HK2.out _⟩
              · go_wp2_with ((with_reducible refine gate_builtin (b := .append) (xs := #[.tmp 71, .tmp 72]) rfl ?_); at_builtin; refine Kd.R_append (Kd.int .i32) (w0 := w0) w0.heap.size rfl (.tmp 71) (.tmp 72) 22 21 (.int .i32 0) 4 rfl Try.underlying22 info21 rfl (by decide) (by omega) (.slice A0 xs.length c0) xs 0 [.int .i32 0] (fun k_ => (P0_ k_ ∨ w.heap.size ≤ k_)) (fun _ => False) rfl rfl ?aP (fun _ hk => hk.elim) ?aF ?aO ?aB ?aS ?aL ?_; (case aP => exact rfl); (case aF => exact (fun k hk => .inr (Nat.le_trans HK2.out.1 hk))); (case aO => exact Kd.R_drewN HR2.out _); (case aB => exact pw_below_drewN HB2.out _); (case aS => exact (below_size (pw_below_drewN HB2.out _))); (case aL => omega); intro v1 w4 ho hb hg hat; have HR4 := Aside0.mk ho; have HB4 := Aside0.mk hb; have HG4 := Aside0.mk hg; clear ho hb hg hat)
                obtain ⟨gr, cap, cur, ev, hrow⟩ := row_at (enc := Value.int .i32) HR4.out (by simp)
                subst ev
                rw [show (xs ++ [(0 : Int)]).length = xs.length + 1 by simp] at hrow
                rw [show (xs ++ [(0 : Int)]).length = xs.length + 1 by simp]
                have HROW := Aside0.mk hrow
                have hnc := hrow.le
                have HG : Aside0 (gr ≠ g) := ⟨blk_ne hrow.heap (blk_grown (blk_drewN HS2.out nd3) HG4.out (by have h_ := Kd.R_ne HR2.out HS2.out (by decide); exact h_)) (by decide)⟩
                have HS4 : Aside0 (St w4 g (xs.length + 1) c (at_ + 1) (adaptI num' (xs.length + 1) (st == 0)) (st + 1)) := ⟨blk_grown (blk_drewN HS2.out nd3) HG4.out (by have h_ := Kd.R_ne HR2.out HS2.out (by decide); exact h_)⟩
                clear hrow HR4
                obtain ⟨m, rfl⟩ := Int.eq_ofNat_of_zero_le ha0
                have hm : m ≤ xs.length := by omega
                have hcl : (encs (Value.int .i32) (xs.drop m)).length = xs.length - m := by simp [encs]
                have HCL := Aside0.mk hcl
                clear hcl
                have size21 : (Try.prog.info? 21).map (·.size) = some 1 := by kernel_rfl
                have hold : ∀ w5 : World, w5.heap[gr]? = some (.cells (splice cur.toList (m + 1) (encs (Value.int .i32) (xs.drop m))).toArray 21 (0, 0)) → ∃ old, w5.cell? ⟨gr, m, none⟩ = some old := by
                  intro w5 h5
                  rw [blk_cell h5 m]
                  have e2 : cur.toList.length = cap := (Array.length_toList ..).trans HROW.out.size
                  have e3 := length_splice cur.toList (m + 1) (encs (Value.int .i32) (xs.drop m)) (by have e1 := HCL.out; omega)
                  exact ⟨_, Array.getElem?_eq_getElem (by rw [List.size_toArray]; omega)⟩
                have HOLD := Aside0.mk hold
                clear hold
                have hfin : ∀ w5 : World, w5.heap[gr]? = some (.cells (splice cur.toList (m + 1) (encs (Value.int .i32) (xs.drop m))).toArray 21 (0, 0)) → w4.drew.grownBy w5 (some gr) →
                    InvS P0_ w0 w l0 a1 r true (w5.setCell ⟨gr, m, none⟩ (.int .i32 c)) (.slice (some ⟨gr, 0, none⟩) (xs.length + 1) cap) (xs.take m ++ c :: xs.drop m) g (i + 1) c (m + 1) (adaptI num' (xs.length + 1) (st == 0)) (st + 1) 1 0 1 := by
                  intro w5 h5 g5
                  have hlen : (xs.take m ++ c :: xs.drop m).length = xs.length + 1 := by simp; omega
                  have hr := HRUN.out
                  rw [runD, HD.out, if_neg (show ¬ d < 0 by omega), HT.out, HNUM.out] at hr
                  simp only at hr
                  rw [if_neg (show ¬ t ≤ d by omega), if_neg (show ¬ 2147483647 < num' by omega), HC.out, HA.out, if_pos ⟨c6, hv⟩, Int.toNat_natCast] at hr
                  have hab := adaptI_bound num' (xs.length + 1) (st == 0)
                  have hvc : 0 ≤ c ∧ c ≤ 1114111 := ⟨hc2, c6⟩
                  exact { R := HROW.out.insert hm (blk_set h5 m _), S := by rw [hlen]; exact blk_far (blk_grown (blk_drew HS4.out) g5 (by have := HG.out; simp; omega)) (by have := HG.out; simp; omega) _, G := HI.out.G, B := (HB4.out.drew.grown g5 (below_size HB4.out.drew) (fun k hk => by injection hk with hk; subst hk; exact HROW.out.base_le)).setCell HROW.out.base_le _, K := Kept.setCell (Kept.of_grown g5 (Kept.drew (Kept.of_grown HG4.out (Kept.drewN HK2.out nd3) (fun k hk => HR2.out.1 k hk))) (fun k hk => by injection hk with hk; subst hk; exact HROW.out.ok_g)) HROW.out.ok_g _, i0 := by omega, i1 := by omega, run := hr, n0 := hc2, n1 := c6, ii0 := by omega, ii1 := by rw [hlen]; omega, b0 := hab.1, b1 := hab.2, s0 := by omega, s1 := by omega, k0 := by omega, k1 := by omega, m0 := by omega, m1 := by omega, w0' := by omega, w1 := by omega, xl := by rw [hlen]; omega }
                have HFIN := Aside0.mk hfin
                clear hfin
                by_cases hmx : m < xs.length
                · have hwr : IntKind.i64.wrap ((m : Int) + 1) = (m : Int) + 1 := IntWalk.i64_in _ ⟨by omega, by omega⟩
                  have hb1' : (0 ≤ (m : Int) + 1) = True := eq_true (by omega)
                  have hb2' : ((m : Int) + 1 ≤ xs.length + 1) = True := eq_true (by omega)
                  have hb3' : ((m : Int) + 1).toNat = m + 1 := by omega
                  have hb4' : (cap = m + 1) = False := eq_false (by omega)
                  have hb5' : (cap = m) = False := eq_false (by omega)
                  have hb6' : ((m : Int) ≤ xs.length + 1) = True := eq_true (by omega)
                  go_region_law (refine step_copy_grown rfl (.tmp 77) (.tmp 80) 22 22 rfl 21 Try.underlying22 size21 (some ⟨gr, m + 1, none⟩) (some ⟨gr, m, none⟩) (xs.length + 1 - (m + 1)) (cap - (m + 1)) (xs.length + 1 - m) (cap - m) ?hd ?hs gr (m + 1) cur.toList 21 ?hg (encs (Value.int .i32) (xs.drop m)) ?hn ?hpos ?hfit ?h1 ?_; (case hd => go_simp); (case hs => go_simp); (case hg => exact blk_drew HROW.out.heap); (case hn => rw [HCL.out]; show _ = min _ _; omega); (case hfit => have e1 := HCL.out; have e2 : cur.toList.length = cap := (Array.length_toList ..).trans HROW.out.size; omega); (case h1 => intro v hv; unfold encs at hv; obtain ⟨x, _, rfl⟩ := List.mem_map.1 hv; rfl); (case hpos => exact fun _ => ⟨rfl, ⟨gr, m, none⟩, rfl, fun j v hj => by rw [addr_add]; exact HROW.out.cell (m + j) v (by unfold encs at hj ⊢; rw [List.map_append, List.getElem?_append_left (by have := (List.getElem?_eq_some_iff.1 hj).1; simp at this ⊢; omega)]; rw [List.map_drop, List.getElem?_drop] at hj; exact hj)⟩); intro w5 hw5 hb5)
                  obtain ⟨old, gc5⟩ := HOLD.out w5 hw5.out
                  have gf5 : w5.frozen? ⟨gr, m, none⟩ = false := blk_frozen hw5.out m
                  go_wp2_with (fail)
                  refine wp_goto ⟨.inl rfl, HJ.out 0 _ _ (Or.inl ⟨rfl, _, _, g, i + 1, c, m + 1, _, st + 1, rfl, HFIN.out w5 hw5.out hb5.out⟩) (show i < i + 1 by omega)⟩
                · by_cases hcap : cap = m + 1
                  · skip
                    have hwr : IntKind.i64.wrap ((m : Int) + 1) = (m : Int) + 1 := IntWalk.i64_in _ ⟨by omega, by omega⟩
                    have hb1' : (0 ≤ (m : Int) + 1) = True := eq_true (by omega)
                    have hb2' : ((m : Int) + 1 ≤ xs.length + 1) = True := eq_true (by omega)
                    have hb3' : ((m : Int) + 1).toNat = m + 1 := by omega
                    have hb4' : (cap = m + 1) = True := eq_true hcap
                    clear hcap
                    have hb5' : (cap = m) = False := eq_false (by omega)
                    have hb6' : ((m : Int) ≤ xs.length + 1) = True := eq_true (by omega)
                    go_region_law (refine step_copy_grown rfl (.tmp 77) (.tmp 80) 22 22 rfl 21 Try.underlying22 size21 (some ⟨gr, 0, none⟩) (some ⟨gr, m, none⟩) (xs.length + 1 - (m + 1)) (cap - (m + 1)) (xs.length + 1 - m) (cap - m) ?hd ?hs gr (m + 1) cur.toList 21 ?hg (encs (Value.int .i32) (xs.drop m)) ?hn ?hpos ?hfit ?h1 ?_; (case hd => go_simp); (case hs => go_simp); (case hg => exact blk_drew HROW.out.heap); (case hn => rw [HCL.out]; show _ = min _ _; omega); (case hfit => have e1 := HCL.out; have e2 : cur.toList.length = cap := (Array.length_toList ..).trans HROW.out.size; omega); (case h1 => intro v hv; unfold encs at hv; obtain ⟨x, _, rfl⟩ := List.mem_map.1 hv; rfl); (case hpos => exact fun h_ => absurd h_ (by have e1 := HCL.out; omega)); intro w5 hw5 hb5)
                    obtain ⟨old, gc5⟩ := HOLD.out w5 hw5.out
                    have gf5 : w5.frozen? ⟨gr, m, none⟩ = false := blk_frozen hw5.out m
                    go_wp2_with (fail)
                    refine wp_goto ⟨.inl rfl, HJ.out 0 _ _ (Or.inl ⟨rfl, _, _, g, i + 1, c, m + 1, _, st + 1, rfl, HFIN.out w5 hw5.out hb5.out⟩) (show i < i + 1 by omega)⟩
                  · skip
                    have hwr : IntKind.i64.wrap ((m : Int) + 1) = (m : Int) + 1 := IntWalk.i64_in _ ⟨by omega, by omega⟩
                    have hb1' : (0 ≤ (m : Int) + 1) = True := eq_true (by omega)
                    have hb2' : ((m : Int) + 1 ≤ xs.length + 1) = True := eq_true (by omega)
                    have hb3' : ((m : Int) + 1).toNat = m + 1 := by omega
                    have hb4' : (cap = m + 1) = False := eq_false hcap
                    clear hcap
                    have hb5' : (cap = m) = False := eq_false (by omega)
                    have hb6' : ((m : Int) ≤ xs.length + 1) = True := eq_true (by omega)
                    go_region_law (refine step_copy_grown rfl (.tmp 77) (.tmp 80) 22 22 rfl 21 Try.underlying22 size21 (some ⟨gr, m + 1, none⟩) (some ⟨gr, m, none⟩) (xs.length + 1 - (m + 1)) (cap - (m + 1)) (xs.length + 1 - m) (cap - m) ?hd ?hs gr (m + 1) cur.toList 21 ?hg (encs (Value.int .i32) (xs.drop m)) ?hn ?hpos ?hfit ?h1 ?_; (case hd => go_simp); (case hs => go_simp); (case hg => exact blk_drew HROW.out.heap); (case hn => rw [HCL.out]; show _ = min _ _; omega); (case hfit => have e1 := HCL.out; have e2 : cur.toList.length = cap := (Array.length_toList ..).trans HROW.out.size; omega); (case h1 => intro v hv; unfold encs at hv; obtain ⟨x, _, rfl⟩ := List.mem_map.1 hv; rfl); (case hpos => exact fun h_ => absurd h_ (by have e1 := HCL.out; omega)); intro w5 hw5 hb5)
                    obtain ⟨old, gc5⟩ := HOLD.out w5 hw5.out
                    have gf5 : w5.frozen? ⟨gr, m, none⟩ = false := blk_frozen hw5.out m
                    go_wp2_with (fail)
                    refine wp_goto ⟨.inl rfl, HJ.out 0 _ _ (Or.inl ⟨rfl, _, _, g, i + 1, c, m + 1, _, st + 1, rfl, HFIN.out w5 hw5.out hb5.out⟩) (show i < i + 1 by omega)⟩
            · have c6b : decide (c ≤ 1114111) = false := decide_eq_false c6
              go_wp2_with (fail)
              simp only [Exit.jumps]
              go_ret2
              have hr := HRUN.out
              rw [runD, HD.out, if_neg (show ¬ d < 0 by omega), HT.out, HNUM.out] at hr
              simp only at hr
              rw [if_neg (show ¬ t ≤ d by omega), if_neg (show ¬ 2147483647 < num' by omega), HC.out, if_neg (by omega)] at hr
              subst hr
              exact ⟨_, rfl, Kd.R_nil _ _ _ _ _, HB2.out, HK2.out⟩

set_option maxHeartbeats 2000000 in
set_option maxRecDepth 100000 in
theorem next_wp (P0_ : Nat → Prop) (w0 w : World) (l0 : List Int) (a1 : ByteArray) (r : List Int × Int) (hl0 : l0.length ≤ 65536) (hl1 : a1.size ≤ 65536) (hw0w : w0.heap.size ≤ w.heap.size) (J' : Nat → Act → World → Prop)
    (w' : World) (xs : List Int) (u : Value) (g : Nat) (i n ii bias st : Int) (hI : InvS P0_ w0 w l0 a1 r true w' u xs g i n ii bias st 1 0 1)
    (hJ : ∀ l a' w', JS P0_ w0 w l0 a1 r l a' w' → i < intOf (a'.tmps.getD 7 undef) → J' l a' w')
    (a0 : Act) (ha0 : a0 = fr0 u a1 g i (fun k => a0.tmps.getD k undef)) : (restS 0).wp Try.prog (Exit.jumps (fun l => l = 0 ∨ l = 1) J' (bodyPost Try.prog Try.f35 (EndS P0_ w0 w r))) a0 w' := by
  rw [ha0]
  generalize (fun k => a0.tmps.getD k undef) = U
  clear ha0 a0
  unfold fr0
  have HI := Aside0.mk hI
  have HJ := Aside0.mk hJ
  have HW0 := Aside0.mk hw0w
  clear hw0w
  obtain ⟨A0, c0, e0⟩ := Kd.R_slice hI.R
  subst e0
  have p1 := hI.i0
  have q1 := hI.i1
  clear hI hJ
  change Code.wp _ (Code.seq _ _) _ _ _
  by_cases c1 : i = a1.size
  · have c1b : (i == (a1.size : Int)) = true := beq_iff_eq.2 c1
    have C1 := Aside0.mk c1
    clear c1
    go_wp2_with (fail)
    simp only [Exit.jumps]
    go_ret2
    have hr := HI.out.run
    rw [bytes_end a1 i (by have := C1.out; omega), runD, if_pos rfl] at hr
    subst hr
    exact ⟨_, rfl, HI.out.R, HI.out.B, HI.out.K⟩
  · have c1b : (i == (a1.size : Int)) = false := beq_eq_false_iff_ne.2 c1
    have C1 := Aside0.mk c1
    clear c1
    go_wp2_with (fail)
    go_step3
    rename_i K_ hK_
    refine hK_ _ _ ?_
    exact read_wp P0_ w0 w l0 a1 r hl0 hl1 HW0.out J' w' xs _ g i n ii bias st 1 0 1 true HI.out (fun h => absurd h C1.out) HJ.out _ rfl

set_option maxHeartbeats 2000000 in
set_option maxRecDepth 100000 in
theorem puny_steps.calls (P0_ : Nat → Prop) (u9000_ : Value) (l0 : List Int) (a1 : ByteArray) (r1 : List Int) (r2 : Int) (w0 w : World) (hB : Below w0.heap.size w0 w)
    (ho0 : Kd.R (Kd.int .i32) 21 w w0.heap.size P0_ u9000_ l0) (h : puny_steps.f l0 a1 = some (r1, r2)) :
    Calls Try.prog 35 #[u9000_, .string a1] w fun e w' => ∃ v0_ : Value, e = .returned (.tuple #[v0_, .int .i64 r2]) ∧ Kd.R (Kd.int .i32) 21 w' w0.heap.size (fun k_ => (P0_ k_ ∨ w.heap.size ≤ k_)) v0_ r1 ∧ Below w0.heap.size w0 w' ∧ Kept w w' (fun k_ => P0_ k_) := by
  show Calls Try.prog 35 #[u9000_, .string a1] w (EndS P0_ w0 w (r1, r2))
  have HR := Aside0.mk ho0
  have HB := Aside0.mk hB
  obtain ⟨hl, h⟩ : (l0.length ≤ 65536 ∧ a1.size ≤ 65536) ∧ runD (bytesOf a1) l0 128 0 72 0 1 0 1 true = (r1, r2) := by
    unfold puny_steps.f at h
    split at h
    · rename_i c; exact ⟨c, Option.some.inj h⟩
    · exact absurd h (by simp)
  obtain ⟨hl0, hl1⟩ := hl
  have H := Aside0.mk h
  clear ho0 hB h
  obtain ⟨A0, c0, e0⟩ := Kd.R_slice HR.out
  subst e0
  go_enter Try.func35, Try.ntmps35
  go_wp2_with (fail)
  refine wp_scope_labels' (fun l => l = 0 ∨ l = 1) (JS P0_ w0 w l0 a1 (r1, r2)) (fun _ a' _ => a1.size - (intOf (a'.tmps.getD 7 undef)).toNat) ?hf ?first ?pass
  case hf => rintro l (rfl | rfl) <;> rfl
  case first =>
    have hu54 := Try.underlying54
    go_wp2_with (fail)
    refine (puny_begun.calls (l0.length : Int) l0.length 128 0 72 0 _ rfl).mono ?_
    rintro e w1 ⟨rfl, hb1⟩
    have HB1 := Aside0.mk hb1
    clear hb1
    go_wp2_with (fail)
    go_step3
    rename_i K_ hK_
    refine hK_ _ _ ?_
    refine next_wp P0_ w0 w l0 a1 (r1, r2) hl0 hl1 HB.out.size _ _ l0 _ w1.heap.size 0 128 0 72 0 ?_ (fun l a' w' hj _ => hj) _ rfl
    exact { R := Kd.R_mono (Kd.R_alloc (Kd.R_below HR.out HB1.out) _) (fun _ hk => .inl hk), S := blk_new _ _, G := HB1.out.size, B := below_alloc (below_step HB.out HB1.out) _, K := Kept.alloc (Kept.of_below HB1.out _) _, i0 := by omega, i1 := by omega, run := H.out, n0 := by omega, n1 := by omega, ii0 := by omega, ii1 := by omega, b0 := by omega, b1 := by omega, s0 := by omega, s1 := by omega, k0 := by omega, k1 := by omega, m0 := by omega, m1 := by omega, w0' := by omega, w1 := by omega, xl := by omega }
  case pass =>
    intro l hl a' w' hj
    rcases hj with ⟨hl_, xs, u, g, i, n, ii, bias, st, ha_, hI⟩ | ⟨hl_, xs, u, g, i, n, ii, bias, st, k, num, wt, ha_, hI⟩
    · subst hl_
      refine wp_skip_seq ?_
      refine next_wp P0_ w0 w l0 a1 (r1, r2) hl0 hl1 HB.out.size _ w' xs _ g i n ii bias st hI (fun l a2 w2 hj hlt => ⟨hj, ?_⟩) a' ha_
      have e1 := hI.i0; have e2 := hI.i1; have e3 := JS.at hj
      have hlt1 : i < intOf (a2.tmps.getD 7 undef) := hlt
      have e4 : intOf (a'.tmps.getD 7 undef) = i := by rw [ha_]; rfl
      show a1.size - (intOf (a2.tmps.getD 7 undef)).toNat < a1.size - (intOf (a'.tmps.getD 7 undef)).toNat
      rw [e4]
      generalize intOf (a2.tmps.getD 7 undef) = q at hlt1 e3 ⊢
      omega
    · subst hl_
      refine wp_skip_seq ?_
      refine read_wp P0_ w0 w l0 a1 (r1, r2) hl0 hl1 HB.out.size _ w' xs _ g i n ii bias st k num wt false hI (fun _ => rfl) (fun l a2 w2 hj hlt => ⟨hj, ?_⟩) a' ha_
      have e1 := hI.i0; have e2 := hI.i1; have e3 := JS.at hj
      have hlt1 : i < intOf (a2.tmps.getD 7 undef) := hlt
      have e4 : intOf (a'.tmps.getD 7 undef) = i := by rw [ha_]; rfl
      show a1.size - (intOf (a2.tmps.getD 7 undef)).toNat < a1.size - (intOf (a'.tmps.getD 7 undef)).toNat
      rw [e4]
      generalize intOf (a2.tmps.getD 7 undef) = q at hlt1 e3 ⊢
      omega
end Go.Proofs.Yticocjpfhllelaa.XP

