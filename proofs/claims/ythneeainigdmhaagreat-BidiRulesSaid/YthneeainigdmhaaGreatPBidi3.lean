/- bidi.rules and bidi.Rules, walked. -/
import Derived.Test.YthneeainigdmhaaGreatPBidi2
import Derived.Test.YthneeainigdmhaaGreatPBidi0
import Derived.Deep.MidRow
import Derived.Laws.EntriesVeiled
set_option linter.unusedVariables false
set_option linter.unusedSimpArgs false
namespace Go.Proofs.YthneeainigdmhaaGreat.M
open Go.RowKit
set_option maxHeartbeats 8000000
set_option maxRecDepth 100000

theorem bd_range {T : List Rec} (hG : Good T) (c : Int) : 0 ≤ bdF T c ∧ bdF T c ≤ 10 := by
  unfold bdF numF
  cases hf : findR T 4 c with
  | none => show (0 : Int) ≤ 0 ∧ (0 : Int) ≤ 10; decide
  | some x =>
    obtain ⟨h1, h2⟩ := findR_some hf
    unfold hitB at h2
    simp only [Bool.and_eq_true, decide_eq_true_eq] at h2
    have hR := hG.right x h1
    have h := hR.kind
    have hf := hR.fits
    unfold fitsB at hf
    have hk := h2.1
    have hq : x.kind = 9 := by
      generalize x.kind = q at h hk
      rcases fam_cases h.1 h.2 with rfl | rfl | rfl | rfl | rfl | rfl | rfl | rfl | rfl | rfl | rfl | rfl | rfl | rfl | rfl <;> first | rfl | (exfalso; revert hk; decide)
    show 0 ≤ x.n ∧ x.n ≤ 10
    simp [hq] at hf
    omega
/-- A rule in memory: its number, and the function that tells whether it is broken. -/
def RuleAt (w : World) (g i : Nat) (n : Int) (f : Value) : Prop := w.cell? ⟨g, 2 * i, none⟩ = some (.int .i64 n) ∧ w.cell? ⟨g, 2 * i + 1, none⟩ = some f
theorem RuleAt.up {w w' : World} {g i : Nat} {n : Int} {f : Value} (h : RuleAt w g i n f) (hu : Up w w') : RuleAt w' g i n f := ⟨up_cell hu h.1, up_cell hu h.2⟩
theorem ruleAt_new (w : World) (cs : Array Value) (t : TypeId) (i : Nat) (n : Int) (f : Value) (h1 : cs[2 * i]? = some (.int .i64 n)) (h2 : cs[2 * i + 1]? = some f) : RuleAt (w.alloc (.cells cs t)) w.heap.size i n f :=
  ⟨(cell_of_row _ _ _ _ _ (0, 0) (heap_alloc_new w _)).trans h1, (cell_of_row _ _ _ _ _ (0, 0) (heap_alloc_new w _)).trans h2⟩
/-- What rules hands back: rules in memory, and what their functions hold. -/
def RulesRet (n : Nat) (R : Nat → Nat → List (Int × Value)) (f : Nat → Int) (v : Int) (w : World) (e : Ending) (w' : World) : Prop :=
  ∃ g b4 b5, e = .returned (.slice (some ⟨g, 0, none⟩) n n) ∧ (∀ i p, (R b4 b5)[i]? = some p → RuleAt w' g i p.1 p.2) ∧ w'.cell? ⟨b4, 0, none⟩ = some (.int .i64 v) ∧ H11 w' b5 f ∧ Up w w'
theorem rulesRet_mk (n : Nat) (R : Nat → Nat → List (Int × Value)) (f : Nat → Int) (v : Int) (w : World) (cs : Array Value) (t : TypeId) (hc : ∀ i p, (R w.heap.size (w.heap.size + 1))[i]? = some p → cs[2 * i]? = some (.int .i64 p.1) ∧ cs[2 * i + 1]? = some p.2) :
    RulesRet n R f v w (.returned (.slice (some ⟨w.heap.size + 1 + 1, 0, none⟩) n n)) (((w.alloc (.cells #[.int .i64 v] 3)).alloc (.cells (a11 f) 115)).alloc (.cells cs t)) := by
  have u3 : Up ((w.alloc (.cells #[.int .i64 v] 3)).alloc (.cells (a11 f) 115)) (((w.alloc (.cells #[.int .i64 v] 3)).alloc (.cells (a11 f) 115)).alloc (.cells cs t)) := up_alloc (up_refl _) _
  have u2 : Up (w.alloc (.cells #[.int .i64 v] 3)) ((w.alloc (.cells #[.int .i64 v] 3)).alloc (.cells (a11 f) 115)) := up_alloc (up_refl _) _
  have u1 : Up w (w.alloc (.cells #[.int .i64 v] 3)) := up_alloc (up_refl _) _
  have e1 : (w.alloc (.cells #[.int .i64 v] 3)).heap.size = w.heap.size + 1 := by simp
  have e2 : ((w.alloc (.cells #[.int .i64 v] 3)).alloc (.cells (a11 f) 115)).heap.size = w.heap.size + 1 + 1 := by simp
  refine ⟨w.heap.size + 1 + 1, w.heap.size, w.heap.size + 1, rfl, fun i p hp => ?_, ?_, ?_, up_trans u1 (up_trans u2 u3)⟩
  · have := ruleAt_new ((w.alloc (.cells #[.int .i64 v] 3)).alloc (.cells (a11 f) 115)) cs t i p.1 p.2 (hc i p hp).1 (hc i p hp).2
    rwa [e2] at this
  · exact up_cell (up_trans u2 u3) (cell_of_row _ _ _ _ _ (0, 0) (heap_alloc_new w _))
  · have := H11.new (w.alloc (.cells #[.int .i64 v] 3)) f
    rw [e1] at this
    exact this.up u3
def rulesL (b4 b5 : Nat) : List (Int × Value) := [(5, (.func (.func 131) #[] #[.pointer (some ⟨b5, 0, none⟩)])), (6, (.func (.func 133) #[] #[.pointer (some ⟨b4, 0, none⟩)]))]
theorem rules_l (f : Nat → Int) (v : Int) (w : World) : Calls Tryz.prog 100 #[.int .i64 0, .int .i64 v, .agg (a11 f)] w (RulesRet 2 rulesL f v w) := by
  go_enter Tryz.func100, Tryz.ntmps100
  go_wp2
  go_ret
  refine rulesRet_mk 2 rulesL f v w _ _ (fun i p hp => ?_)
  rcases i with _ | _ | i
  · cases hp; exact ⟨rfl, rfl⟩
  · cases hp; exact ⟨rfl, rfl⟩
  · simp [rulesL] at hp
def rulesR (b4 b5 : Nat) : List (Int × Value) := [(2, (.func (.func 135) #[] #[.pointer (some ⟨b5, 0, none⟩)])), (3, (.func (.func 136) #[] #[.pointer (some ⟨b4, 0, none⟩)])), (4, (.func (.func 137) #[] #[.pointer (some ⟨b5, 0, none⟩)]))]
theorem rules_r (a : Int) (ha : a = 1 ∨ a = 2) (f : Nat → Int) (v : Int) (w : World) : Calls Tryz.prog 100 #[.int .i64 a, .int .i64 v, .agg (a11 f)] w (RulesRet 3 rulesR f v w) := by
  have e0 : (a == 0) = false := by rcases ha with rfl | rfl <;> rfl
  rcases ha with rfl | rfl
  all_goals
    go_enter Tryz.func100, Tryz.ntmps100
    go_wp2
    go_ret
    refine rulesRet_mk 3 rulesR f v w _ _ (fun i p hp => ?_)
    rcases i with _ | _ | _ | i
    · cases hp; exact ⟨rfl, rfl⟩
    · cases hp; exact ⟨rfl, rfl⟩
    · cases hp; exact ⟨rfl, rfl⟩
    · simp [rulesR] at hp
def rulesN (b4 b5 : Nat) : List (Int × Value) := [(1, (.func (.func 134) #[] #[]))]
theorem rules_n (a : Int) (ha : a ≠ 0 ∧ a ≠ 1 ∧ a ≠ 2) (f : Nat → Int) (v : Int) (w : World) : Calls Tryz.prog 100 #[.int .i64 a, .int .i64 v, .agg (a11 f)] w (RulesRet 1 rulesN f v w) := by
  have e0 : (a == 0) = false := beq_eq_false_iff_ne.mpr ha.1
  have e1 : (a != 1) = true := bne_iff_ne.mpr ha.2.1
  have e2 : (a != 2) = true := bne_iff_ne.mpr ha.2.2
  have e3 : (a == 1) = false := beq_eq_false_iff_ne.mpr ha.2.1
  have e4 : (a == 2) = false := beq_eq_false_iff_ne.mpr ha.2.2
  clear ha
  go_enter Tryz.func100, Tryz.ntmps100
  go_wp2
  go_ret
  refine rulesRet_mk 1 rulesN f v w _ _ (fun i p hp => ?_)
  rcases i with _ | i
  · cases hp; exact ⟨rfl, rfl⟩
  · simp [rulesN] at hp
theorem h11_range {w : World} {b : Nat} {f : Nat → Int} (h : H11 w b f) : w.rangeAt b 0 [.int .i64 (f 0), .int .i64 (f 1), .int .i64 (f 2), .int .i64 (f 3), .int .i64 (f 4), .int .i64 (f 5), .int .i64 (f 6), .int .i64 (f 7), .int .i64 (f 8), .int .i64 (f 9), .int .i64 (f 10)] := fun j v hv => by
  rw [Nat.zero_add, cell_of_row _ _ j _ _ (0, 0) h]
  simpa using hv
theorem pos_cast (n : Nat) : decide ((0 : Int) < (n : Int)) = decide (0 < n) := decide_eq_decide.2 (by omega)
theorem h11_info : (Tryz.prog.info? 115).map (·.size) = some 11 := by kernel_rfl
/-- A rule taken out of a row. -/
def RuleBox (w : World) (b : Nat) (n : Int) : Prop := w.cell? ⟨b, 0, none⟩ = some (.int .i64 n) ∧ True
theorem ruleBox_new (w : World) (n : Int) (f : Value) : RuleBox (w.alloc (.cells #[.int .i64 n, f] 119)) w.heap.size n := ⟨cell_of_row _ _ _ _ _ (0, 0) (heap_alloc_new w _), trivial⟩
theorem RuleBox.up {w w' : World} {b : Nat} {n : Int} (h : RuleBox w b n) (hu : Up w w') : RuleBox w' b n := ⟨up_cell hu h.1, trivial⟩
theorem none_l {f : Nat → Int} {B : Int → Int} {x : List Int} (hf : ∀ k : Nat, f k = (cntD B x k : Nat)) : (!noneD f [0, 4, 5, 6, 7, 8, 9, 10]) = hasF B x := by
  rw [has_cnt]
  have e : noneD f [0, 4, 5, 6, 7, 8, 9, 10] = (f 1 == 0 && (f 2 == 0 && (f 3 == 0))) := by
    simp [noneD, cutD, List.range, List.range.loop]
  rw [e, hf 1, hf 2, hf 3]
  have z : ∀ n : Nat, (((n : Nat) : Int) == 0) = !decide (0 < n) := fun n => by cases n <;> simp; omega
  rw [z, z, z]
  cases decide (0 < cntD B x ((1 : Nat) : Int)) <;> cases decide (0 < cntD B x ((2 : Nat) : Int)) <;> cases decide (0 < cntD B x ((3 : Nat) : Int)) <;> rfl
theorem none_r {f : Nat → Int} {B : Int → Int} {x : List Int} (hf : ∀ k : Nat, f k = (cntD B x k : Nat)) : (!noneD f [1, 2, 3, 4, 5, 6, 7, 8, 9, 10]) = anyL B x := by
  rw [anyL_cnt]
  have e : noneD f [1, 2, 3, 4, 5, 6, 7, 8, 9, 10] = (f 0 == 0) := by
    simp [noneD, cutD, List.range, List.range.loop]
  rw [e, hf 0]
  have z : ∀ n : Nat, (((n : Nat) : Int) == 0) = !decide (0 < n) := fun n => by cases n <;> simp; omega
  rw [z]
  cases decide (0 < cntD B x ((0 : Nat) : Int)) <;> rfl
section
variable {H : Nat} {w : World} {bd : Nat} {D : DataV} {T : List Rec}
theorem Rules_calls (hD : DataAt H w bd D T) (hG : Good T) (A : Option Addr) (c : Nat) (x : List Int) (hI : Ints .i32 w A x) (hx : x.length < 4611686018427387904) (hwf : ∀ z ∈ x, (Lit.int .i32 z).wf = true) (r : Int) (hr : rulesF (bdF T) x = r) :
    Calls Tryz.prog 47 #[.pointer (some ⟨bd, 0, none⟩), .slice A x.length c] w fun e w' => e = .returned (.int .i64 r) ∧ Up w w' := by
  have HD := Aside0.mk hD
  have HG := Aside0.mk hG
  have HI := Aside0.mk hI
  have HX := Aside0.mk hx
  have HWF := Aside0.mk hwf
  have HR := Aside0.mk hr
  clear hD hG hI hwf hr
  by_cases hx0 : x = []
  · have hr0 : (0 : Int) = r := by rw [← HR.out, hx0]; rfl
    subst hr0
    have hxl : x.length = 0 := by rw [hx0]; rfl
    have g1 : ((x.length : Int) == 0) = true := beq_iff_eq.mpr (by omega)
    clear hx0
    go_enter Tryz.func47, Tryz.ntmps47
    go_wp2
    go_ret
    exact ⟨rfl, up_refl _⟩
  · have hxp : 0 < x.length := List.length_pos_iff.2 hx0
    have g1 : ((x.length : Int) == 0) = false := beq_eq_false_iff_ne.mpr (by omega)
    have g2 : ¬ (x.length = 0) := by omega
    have HXP := Aside0.mk hxp
    clear hx0
    go_enter Tryz.func47, Tryz.ntmps47
    go_wp2
    go_loopg [6, 8, 9, 23] x.length (fun k v6 v8 v9 v23 w' => ∃ (i : Nat), v23 = .int .i64 i ∧ v6 = .int .i64 (lastD (bdF T) (x.take i) 10) ∧ Aside0 (i + k = x.length) ∧ Aside0 (H11 w' w.heap.size (fun k => (cntD (bdF T) (x.take i) k : Nat))) ∧ Aside0 (Up w w'))
    case atStart => exact ⟨0, rfl, rfl, ⟨Nat.zero_add _⟩, ⟨H11.new w (fun _ => 0)⟩, ⟨up_alloc (up_refl _) _⟩⟩
    case round =>
      obtain ⟨i, rfl, rfl, HN, HA, HB⟩ := hrel
      cases gk with
      | zero =>
        have hlt : decide ((i : Int) < (x.length : Int)) = false := decide_eq_false (by have := HN.out; omega)
        have hlt1 : ¬ (i < x.length) := by have := HN.out; omega
        have hfull : x.take i = x := List.take_of_length_le (by omega)
        rw [hfull] at HA
        rw [hfull]
        obtain ⟨f, hf⟩ : ∃ f : Nat → Int, (fun k : Nat => ((cntD (bdF T) x k : Nat) : Int)) = f := ⟨_, rfl⟩
        rw [hf] at HA
        have HF : Aside0 (∀ k : Nat, f k = (cntD (bdF T) x k : Nat)) := ⟨fun k => by rw [← hf]⟩
        obtain ⟨lv, hlv⟩ : ∃ lv, lastD (bdF T) x 10 = lv := ⟨_, rfl⟩
        rw [hlv]
        have HLV := Aside0.mk hlv
        obtain ⟨ad, hAd, hc0⟩ := HI.out.at_ 0 (by decide) (by omega)
        have hc0 : w.cell? (ad.add 0) = some (.int .i32 (rd x 0)) := hc0
        subst hAd
        have HAR0 : Aside0 (-2147483648 ≤ rd x 0 ∧ rd x 0 ≤ 2147483647) := ⟨rd_wf HWF.out 0⟩
        have hx1 : x = rd x 0 :: x.drop 1 := by
          cases x with
          | nil => exact absurd HXP.out (Nat.lt_irrefl _)
          | cons a r => rfl
        have HRS : Aside0 (∀ z, z = bdF T (rd x 0) → (if z = 0 then ruleN (hasF (bdF T) x) 16 + ruleN (!endL (lastD (bdF T) x 10)) 32 else if z = 1 ∨ z = 2 then ruleN (anyL (bdF T) x) 2 + ruleN (!endR (lastD (bdF T) x 10)) 4 + ruleN (decide (0 < cntD (bdF T) x 4) && decide (0 < cntD (bdF T) x 3)) 8 else 1) = r) := ⟨fun z hz => by
          rw [← HR.out, hz]
          conv => rhs; rw [hx1]
          rw [rulesF_cons, ← hx1]⟩
        obtain ⟨a0, ha0⟩ : ∃ a0, rd x 0 = a0 := ⟨_, rfl⟩
        rw [ha0] at hc0 HAR0 HRS
        have e0 : ad.add 0 = ad := if_pos rfl
        rw [e0] at hc0
        have HC0 := Aside0.mk hc0
        obtain ⟨y0, hy0⟩ : ∃ y0, bdF T a0 = y0 := ⟨_, rfl⟩
        have HY := Aside0.mk hy0
        have HRS2 : Aside0 ((if y0 = 0 then ruleN (hasF (bdF T) x) 16 + ruleN (!endL (lastD (bdF T) x 10)) 32 else if y0 = 1 ∨ y0 = 2 then ruleN (anyL (bdF T) x) 2 + ruleN (!endR (lastD (bdF T) x 10)) 4 + ruleN (decide (0 < cntD (bdF T) x 4) && decide (0 < cntD (bdF T) x 3)) 8 else 1) = r) := ⟨HRS.out y0 hy0.symm⟩
        have n0 : 0 < x.length := HXP.out
        have n1 : (0 : Int) < (x.length : Int) := by omega
        clear hfull hf hlv hx1 ha0 hy0 HRS hc0 e0
        by_cases hy00 : y0 = 0
        · subst hy00
          have HRS3 : Aside0 (ruleN (hasF (bdF T) x) 16 + ruleN (!endL (lastD (bdF T) x 10)) 32 = r) := ⟨by have := HRS2.out; rwa [if_pos rfl] at this⟩
          go_wp2
          have hA := HA.out
          have hld := h11_range (hA.up (up_drew (up_refl _)))
          have hs0 : wr.drew.cell? ⟨bd, 4, none⟩ = some (.pointer (some ⟨D.b4, 0, none⟩)) ∧ wr.drew.cell? ad = some (.int .i32 a0) ∧ wr.drew.rangeAt w.heap.size 0 [.int .i64 (f 0), .int .i64 (f 1), .int .i64 (f 2), .int .i64 (f 3), .int .i64 (f 4), .int .i64 (f 5), .int .i64 (f 6), .int .i64 (f 7), .int .i64 (f 8), .int .i64 (f 9), .int .i64 (f 10)] := ⟨((HD.out.up (up_drew HB.out)).all).1.2.2.2.2.1, up_cell (up_drew HB.out) HC0.out, hld⟩
          have hu11 := Tryz.underlying115
          have hi11 := h11_info
          clear hld hA
          go_region_held3 (fun w' => w'.cell? ⟨bd, 4, none⟩ = some (.pointer (some ⟨D.b4, 0, none⟩)) ∧ w'.cell? ad = some (.int .i32 a0) ∧ w'.rangeAt w.heap.size 0 [.int .i64 (f 0), .int .i64 (f 1), .int .i64 (f 2), .int .i64 (f 3), .int .i64 (f 4), .int .i64 (f 5), .int .i64 (f 6), .int .i64 (f 7), .int .i64 (f 8), .int .i64 (f 9), .int .i64 (f 10)]) (first | exact hs0 | exact hs1 | exact hs2) (first | (go_at_call 34; (with_reducible refine (((HD.out.up HB.out).up (up_drew (up_refl _))).Bidi HG.out a0 0 HY.out HAR0.out.1 HAR0.out.2).mono ?_); rintro e w5 ⟨rfl, hup5⟩; have HU5 := Aside0.mk (up_trans (up_drew HB.out) hup5); have hs1 : w5.cell? ⟨bd, 4, none⟩ = some (.pointer (some ⟨D.b4, 0, none⟩)) ∧ w5.cell? ad = some (.int .i32 a0) ∧ w5.rangeAt w.heap.size 0 [.int .i64 (f 0), .int .i64 (f 1), .int .i64 (f 2), .int .i64 (f 3), .int .i64 (f 4), .int .i64 (f 5), .int .i64 (f 6), .int .i64 (f 7), .int .i64 (f 8), .int .i64 (f 9), .int .i64 (f 10)] := ⟨((HD.out.up HU5.out).all).1.2.2.2.2.1, up_cell HU5.out HC0.out, h11_range (HA.out.up (up_trans (up_drew (up_refl _)) hup5))⟩; have HU5b := Aside0.mk hup5; clear hup5) | (go_at_call 100; (with_reducible refine (rules_l f lv _).mono ?_); rintro e w6 ⟨g, b4, b5, rfl, hrl, hbl, hbh, hup6⟩; have HU6 := Aside0.mk (up_trans HU5.out hup6); have HRL := Aside0.mk hrl; have HBL := Aside0.mk hbl; have HBH := Aside0.mk hbh; have hs2 : w6.cell? ⟨bd, 4, none⟩ = some (.pointer (some ⟨D.b4, 0, none⟩)) ∧ w6.cell? ad = some (.int .i32 a0) ∧ w6.rangeAt w.heap.size 0 [.int .i64 (f 0), .int .i64 (f 1), .int .i64 (f 2), .int .i64 (f 3), .int .i64 (f 4), .int .i64 (f 5), .int .i64 (f 6), .int .i64 (f 7), .int .i64 (f 8), .int .i64 (f 9), .int .i64 (f 10)] := ⟨((HD.out.up HU6.out).all).1.2.2.2.2.1, up_cell HU6.out HC0.out, h11_range (HA.out.up (up_trans (up_drew (up_refl _)) (up_trans HU5b.out hup6)))⟩; clear hup6 hrl hbl hbh))
          go_wp2
          have HSUM : ∀ q0 q1, (!noneD f [0, 4, 5, 6, 7, 8, 9, 10]) = q0 → (!endL lv) = q1 → ruleN q0 16 + ruleN q1 32 = r := fun q0 q1 h0 h1 => by rw [← h0, ← h1, none_l HF.out, ← HLV.out]; exact HRS3.out
          obtain ⟨q0, hq0⟩ : ∃ q, (!noneD f [0, 4, 5, 6, 7, 8, 9, 10]) = q := ⟨_, rfl⟩
          have HQ0 := Aside0.mk hq0
          obtain ⟨q1, hq1⟩ : ∃ q, (!endL lv) = q := ⟨_, rfl⟩
          have HQ1 := Aside0.mk hq1
          clear hq0 hq1
          have HRR : Aside0 (ruleN q0 16 + ruleN q1 32 = r) := ⟨HSUM q0 q1 HQ0.out HQ1.out⟩
          clear HSUM
          go_loopg [10, 12, 54] 2 (fun k v10 v12 v54 w' => ∃ (i : Nat) (s : Int), v54 = .int .i64 i ∧ v10 = .int .i64 s ∧ Aside0 (i + k = 2) ∧ Aside0 ((i = 0 ∧ s = 0) ∨ (i = 1 ∧ s = ruleN q0 16) ∨ (i = 2 ∧ s = ruleN q0 16 + ruleN q1 32)) ∧ Aside0 (Up w6 w'))
          case atStart => exact ⟨0, 0, rfl, rfl, ⟨rfl⟩, ⟨.inl ⟨rfl, rfl⟩⟩, ⟨up_refl _⟩⟩
          case round =>
            obtain ⟨i, s, rfl, rfl, HN, HS, HV⟩ := hrel
            rcases HS.out with ⟨rfl, hs⟩ | ⟨rfl, hs⟩ | ⟨rfl, hs⟩
            · obtain ⟨k1', k2'⟩ := (HRL.out 0 _ rfl).up HV.out
              have k1 : wr.cell? ⟨g, 0, none⟩ = some (.int .i64 5) := k1'
              have k2 : wr.cell? ⟨g, 1, none⟩ = some (.func (.func 131) #[] #[.pointer (some ⟨b5, 0, none⟩)]) := k2'
              clear k1' k2'
              obtain ⟨gk', rfl⟩ : ∃ gk', gk = gk' + 1 := ⟨1, by have := HN.out; omega⟩
              have HS1 := Aside0.mk hs
              clear hs
              have HW : Aside0 (Up w6 (wr.alloc (.cells #[.int .i64 5, (.func (.func 131) #[] #[.pointer (some ⟨b5, 0, none⟩)])] 119))) := ⟨up_alloc HV.out _⟩
              cases q0 with
              | true =>
                go_wp2_with (first | (go_at_call 131; (with_reducible refine (rule1_calls b5 f _ (HBH.out.up HW.out) true HQ0.out).mono ?_); rintro e w7 ⟨rfl, hup7⟩; have HU7 := Aside0.mk (up_trans HW.out hup7); obtain ⟨l1, l2⟩ := (show RuleBox w7 wr.heap.size 5 from RuleBox.up (ruleBox_new _ _ _) hup7); clear hup7))
                go_roundg gk'
                case measure => have := HN.out; omega
                case rel => exact ⟨1, _, rfl, rfl, ⟨by have := HN.out; omega⟩, ⟨.inr (.inl ⟨rfl, by rw [HS1.out]; rfl⟩)⟩, ⟨HU7.out⟩⟩
              | false =>
                go_wp2_with (first | (go_at_call 131; (with_reducible refine (rule1_calls b5 f _ (HBH.out.up HW.out) false HQ0.out).mono ?_); rintro e w7 ⟨rfl, hup7⟩; have HU7 := Aside0.mk (up_trans HW.out hup7); obtain ⟨l1, l2⟩ := (show RuleBox w7 wr.heap.size 5 from RuleBox.up (ruleBox_new _ _ _) hup7); clear hup7))
                go_roundg gk'
                case measure => have := HN.out; omega
                case rel => exact ⟨1, _, rfl, rfl, ⟨by have := HN.out; omega⟩, ⟨.inr (.inl ⟨rfl, HS1.out⟩)⟩, ⟨HU7.out⟩⟩
            · obtain ⟨k1', k2'⟩ := (HRL.out 1 _ rfl).up HV.out
              have k1 : wr.cell? ⟨g, 2, none⟩ = some (.int .i64 6) := k1'
              have k2 : wr.cell? ⟨g, 3, none⟩ = some (.func (.func 133) #[] #[.pointer (some ⟨b4, 0, none⟩)]) := k2'
              clear k1' k2'
              obtain ⟨gk', rfl⟩ : ∃ gk', gk = gk' + 1 := ⟨0, by have := HN.out; omega⟩
              have HS1 := Aside0.mk hs
              clear hs
              have HW : Aside0 (Up w6 (wr.alloc (.cells #[.int .i64 6, (.func (.func 133) #[] #[.pointer (some ⟨b4, 0, none⟩)])] 119))) := ⟨up_alloc HV.out _⟩
              cases q1 with
              | true =>
                go_wp2_with (first | (go_at_call 133; (with_reducible refine (rule2_calls b4 lv _ (up_cell HW.out HBL.out) true HQ1.out).mono ?_); rintro e w7 ⟨rfl, hup7⟩; have HU7 := Aside0.mk (up_trans HW.out hup7); obtain ⟨l1, l2⟩ := (show RuleBox w7 wr.heap.size 6 from RuleBox.up (ruleBox_new _ _ _) hup7); clear hup7))
                go_roundg gk'
                case measure => have := HN.out; omega
                case rel => exact ⟨2, _, rfl, rfl, ⟨by have := HN.out; omega⟩, ⟨.inr (.inr ⟨rfl, by rw [HS1.out]; cases q0 <;> rfl⟩)⟩, ⟨HU7.out⟩⟩
              | false =>
                go_wp2_with (first | (go_at_call 133; (with_reducible refine (rule2_calls b4 lv _ (up_cell HW.out HBL.out) false HQ1.out).mono ?_); rintro e w7 ⟨rfl, hup7⟩; have HU7 := Aside0.mk (up_trans HW.out hup7); obtain ⟨l1, l2⟩ := (show RuleBox w7 wr.heap.size 6 from RuleBox.up (ruleBox_new _ _ _) hup7); clear hup7))
                go_roundg gk'
                case measure => have := HN.out; omega
                case rel => exact ⟨2, _, rfl, rfl, ⟨by have := HN.out; omega⟩, ⟨.inr (.inr ⟨rfl, by rw [HS1.out]; exact (Int.add_zero _).symm⟩)⟩, ⟨HU7.out⟩⟩
            · have hs2 : s = r := hs.trans HRR.out
              subst hs2
              clear hs
              go_wp2
              go_ret
              exact ⟨rfl, up_trans HU6.out HV.out⟩
        · by_cases hy12 : y0 = 1 ∨ y0 = 2
          · have HRS3 : Aside0 (ruleN (anyL (bdF T) x) 2 + ruleN (!endR (lastD (bdF T) x 10)) 4 + ruleN (decide (0 < cntD (bdF T) x 4) && decide (0 < cntD (bdF T) x 3)) 8 = r) := ⟨by have := HRS2.out; rwa [if_neg hy00, if_pos hy12] at this⟩
            have HY12 := Aside0.mk hy12
            clear hy00 hy12
            go_wp2
            have hA := HA.out
            have hld := h11_range (hA.up (up_drew (up_refl _)))
            have hs0 : wr.drew.cell? ⟨bd, 4, none⟩ = some (.pointer (some ⟨D.b4, 0, none⟩)) ∧ wr.drew.cell? ad = some (.int .i32 a0) ∧ wr.drew.rangeAt w.heap.size 0 [.int .i64 (f 0), .int .i64 (f 1), .int .i64 (f 2), .int .i64 (f 3), .int .i64 (f 4), .int .i64 (f 5), .int .i64 (f 6), .int .i64 (f 7), .int .i64 (f 8), .int .i64 (f 9), .int .i64 (f 10)] := ⟨((HD.out.up (up_drew HB.out)).all).1.2.2.2.2.1, up_cell (up_drew HB.out) HC0.out, hld⟩
            have hu11 := Tryz.underlying115
            have hi11 := h11_info
            clear hld hA
            go_region_held3 (fun w' => w'.cell? ⟨bd, 4, none⟩ = some (.pointer (some ⟨D.b4, 0, none⟩)) ∧ w'.cell? ad = some (.int .i32 a0) ∧ w'.rangeAt w.heap.size 0 [.int .i64 (f 0), .int .i64 (f 1), .int .i64 (f 2), .int .i64 (f 3), .int .i64 (f 4), .int .i64 (f 5), .int .i64 (f 6), .int .i64 (f 7), .int .i64 (f 8), .int .i64 (f 9), .int .i64 (f 10)]) (first | exact hs0 | exact hs1 | exact hs2) (first | (go_at_call 34; (with_reducible refine (((HD.out.up HB.out).up (up_drew (up_refl _))).Bidi HG.out a0 y0 HY.out HAR0.out.1 HAR0.out.2).mono ?_); rintro e w5 ⟨rfl, hup5⟩; have HU5 := Aside0.mk (up_trans (up_drew HB.out) hup5); have hs1 : w5.cell? ⟨bd, 4, none⟩ = some (.pointer (some ⟨D.b4, 0, none⟩)) ∧ w5.cell? ad = some (.int .i32 a0) ∧ w5.rangeAt w.heap.size 0 [.int .i64 (f 0), .int .i64 (f 1), .int .i64 (f 2), .int .i64 (f 3), .int .i64 (f 4), .int .i64 (f 5), .int .i64 (f 6), .int .i64 (f 7), .int .i64 (f 8), .int .i64 (f 9), .int .i64 (f 10)] := ⟨((HD.out.up HU5.out).all).1.2.2.2.2.1, up_cell HU5.out HC0.out, h11_range (HA.out.up (up_trans (up_drew (up_refl _)) hup5))⟩; have HU5b := Aside0.mk hup5; clear hup5) | (go_at_call 100; (with_reducible refine (rules_r y0 HY12.out f lv _).mono ?_); rintro e w6 ⟨g, b4, b5, rfl, hrl, hbl, hbh, hup6⟩; have HU6 := Aside0.mk (up_trans HU5.out hup6); have HRL := Aside0.mk hrl; have HBL := Aside0.mk hbl; have HBH := Aside0.mk hbh; have hs2 : w6.cell? ⟨bd, 4, none⟩ = some (.pointer (some ⟨D.b4, 0, none⟩)) ∧ w6.cell? ad = some (.int .i32 a0) ∧ w6.rangeAt w.heap.size 0 [.int .i64 (f 0), .int .i64 (f 1), .int .i64 (f 2), .int .i64 (f 3), .int .i64 (f 4), .int .i64 (f 5), .int .i64 (f 6), .int .i64 (f 7), .int .i64 (f 8), .int .i64 (f 9), .int .i64 (f 10)] := ⟨((HD.out.up HU6.out).all).1.2.2.2.2.1, up_cell HU6.out HC0.out, h11_range (HA.out.up (up_trans (up_drew (up_refl _)) (up_trans HU5b.out hup6)))⟩; clear hup6 hrl hbl hbh))
            go_wp2
            have HSUM : ∀ q0 q1 q2, (!noneD f [1, 2, 3, 4, 5, 6, 7, 8, 9, 10]) = q0 → (!endR lv) = q1 → (decide (0 < f 4) && decide (0 < f 3)) = q2 → ruleN q0 2 + ruleN q1 4 + ruleN q2 8 = r := fun q0 q1 q2 h0 h1 h2 => by rw [← h0, ← h1, ← h2, none_r HF.out, ← HLV.out, ← HRS3.out, HF.out 4, HF.out 3, pos_cast, pos_cast]; rfl
            obtain ⟨q0, hq0⟩ : ∃ q, (!noneD f [1, 2, 3, 4, 5, 6, 7, 8, 9, 10]) = q := ⟨_, rfl⟩
            have HQ0 := Aside0.mk hq0
            obtain ⟨q1, hq1⟩ : ∃ q, (!endR lv) = q := ⟨_, rfl⟩
            have HQ1 := Aside0.mk hq1
            obtain ⟨q2, hq2⟩ : ∃ q, (decide (0 < f 4) && decide (0 < f 3)) = q := ⟨_, rfl⟩
            have HQ2 := Aside0.mk hq2
            clear hq0 hq1 hq2
            have HRR : Aside0 (ruleN q0 2 + ruleN q1 4 + ruleN q2 8 = r) := ⟨HSUM q0 q1 q2 HQ0.out HQ1.out HQ2.out⟩
            clear HSUM
            go_loopg [10, 12, 54] 3 (fun k v10 v12 v54 w' => ∃ (i : Nat) (s : Int), v54 = .int .i64 i ∧ v10 = .int .i64 s ∧ Aside0 (i + k = 3) ∧ Aside0 ((i = 0 ∧ s = 0) ∨ (i = 1 ∧ s = ruleN q0 2) ∨ (i = 2 ∧ s = ruleN q0 2 + ruleN q1 4) ∨ (i = 3 ∧ s = ruleN q0 2 + ruleN q1 4 + ruleN q2 8)) ∧ Aside0 (Up w6 w'))
            case atStart => exact ⟨0, 0, rfl, rfl, ⟨rfl⟩, ⟨.inl ⟨rfl, rfl⟩⟩, ⟨up_refl _⟩⟩
            case round =>
              obtain ⟨i, s, rfl, rfl, HN, HS, HV⟩ := hrel
              rcases HS.out with ⟨rfl, hs⟩ | ⟨rfl, hs⟩ | ⟨rfl, hs⟩ | ⟨rfl, hs⟩
              · obtain ⟨k1', k2'⟩ := (HRL.out 0 _ rfl).up HV.out
                have k1 : wr.cell? ⟨g, 0, none⟩ = some (.int .i64 2) := k1'
                have k2 : wr.cell? ⟨g, 1, none⟩ = some (.func (.func 135) #[] #[.pointer (some ⟨b5, 0, none⟩)]) := k2'
                clear k1' k2'
                obtain ⟨gk', rfl⟩ : ∃ gk', gk = gk' + 1 := ⟨2, by have := HN.out; omega⟩
                have HS1 := Aside0.mk hs
                clear hs
                have HW : Aside0 (Up w6 (wr.alloc (.cells #[.int .i64 2, (.func (.func 135) #[] #[.pointer (some ⟨b5, 0, none⟩)])] 119))) := ⟨up_alloc HV.out _⟩
                cases q0 with
                | true =>
                  go_wp2_with (first | (go_at_call 135; (with_reducible refine (rule4_calls b5 f _ (HBH.out.up HW.out) true HQ0.out).mono ?_); rintro e w7 ⟨rfl, hup7⟩; have HU7 := Aside0.mk (up_trans HW.out hup7); obtain ⟨l1, l2⟩ := (show RuleBox w7 wr.heap.size 2 from RuleBox.up (ruleBox_new _ _ _) hup7); clear hup7))
                  go_roundg gk'
                  case measure => have := HN.out; omega
                  case rel => exact ⟨1, _, rfl, rfl, ⟨by have := HN.out; omega⟩, ⟨.inr (.inl ⟨rfl, by rw [HS1.out]; rfl⟩)⟩, ⟨HU7.out⟩⟩
                | false =>
                  go_wp2_with (first | (go_at_call 135; (with_reducible refine (rule4_calls b5 f _ (HBH.out.up HW.out) false HQ0.out).mono ?_); rintro e w7 ⟨rfl, hup7⟩; have HU7 := Aside0.mk (up_trans HW.out hup7); obtain ⟨l1, l2⟩ := (show RuleBox w7 wr.heap.size 2 from RuleBox.up (ruleBox_new _ _ _) hup7); clear hup7))
                  go_roundg gk'
                  case measure => have := HN.out; omega
                  case rel => exact ⟨1, _, rfl, rfl, ⟨by have := HN.out; omega⟩, ⟨.inr (.inl ⟨rfl, HS1.out⟩)⟩, ⟨HU7.out⟩⟩
              · obtain ⟨k1', k2'⟩ := (HRL.out 1 _ rfl).up HV.out
                have k1 : wr.cell? ⟨g, 2, none⟩ = some (.int .i64 3) := k1'
                have k2 : wr.cell? ⟨g, 3, none⟩ = some (.func (.func 136) #[] #[.pointer (some ⟨b4, 0, none⟩)]) := k2'
                clear k1' k2'
                obtain ⟨gk', rfl⟩ : ∃ gk', gk = gk' + 1 := ⟨1, by have := HN.out; omega⟩
                have HS1 := Aside0.mk hs
                clear hs
                have HW : Aside0 (Up w6 (wr.alloc (.cells #[.int .i64 3, (.func (.func 136) #[] #[.pointer (some ⟨b4, 0, none⟩)])] 119))) := ⟨up_alloc HV.out _⟩
                cases q1 with
                | true =>
                  go_wp2_with (first | (go_at_call 136; (with_reducible refine (rule5_calls b4 lv _ (up_cell HW.out HBL.out) true HQ1.out).mono ?_); rintro e w7 ⟨rfl, hup7⟩; have HU7 := Aside0.mk (up_trans HW.out hup7); obtain ⟨l1, l2⟩ := (show RuleBox w7 wr.heap.size 3 from RuleBox.up (ruleBox_new _ _ _) hup7); clear hup7))
                  go_roundg gk'
                  case measure => have := HN.out; omega
                  case rel => exact ⟨2, _, rfl, rfl, ⟨by have := HN.out; omega⟩, ⟨.inr (.inr (.inl ⟨rfl, by rw [HS1.out]; cases q0 <;> rfl⟩))⟩, ⟨HU7.out⟩⟩
                | false =>
                  go_wp2_with (first | (go_at_call 136; (with_reducible refine (rule5_calls b4 lv _ (up_cell HW.out HBL.out) false HQ1.out).mono ?_); rintro e w7 ⟨rfl, hup7⟩; have HU7 := Aside0.mk (up_trans HW.out hup7); obtain ⟨l1, l2⟩ := (show RuleBox w7 wr.heap.size 3 from RuleBox.up (ruleBox_new _ _ _) hup7); clear hup7))
                  go_roundg gk'
                  case measure => have := HN.out; omega
                  case rel => exact ⟨2, _, rfl, rfl, ⟨by have := HN.out; omega⟩, ⟨.inr (.inr (.inl ⟨rfl, by rw [HS1.out]; exact (Int.add_zero _).symm⟩))⟩, ⟨HU7.out⟩⟩
              · obtain ⟨k1', k2'⟩ := (HRL.out 2 _ rfl).up HV.out
                have k1 : wr.cell? ⟨g, 4, none⟩ = some (.int .i64 4) := k1'
                have k2 : wr.cell? ⟨g, 5, none⟩ = some (.func (.func 137) #[] #[.pointer (some ⟨b5, 0, none⟩)]) := k2'
                clear k1' k2'
                obtain ⟨gk', rfl⟩ : ∃ gk', gk = gk' + 1 := ⟨0, by have := HN.out; omega⟩
                have HS1 := Aside0.mk hs
                clear hs
                have HW : Aside0 (Up w6 (wr.alloc (.cells #[.int .i64 4, (.func (.func 137) #[] #[.pointer (some ⟨b5, 0, none⟩)])] 119))) := ⟨up_alloc HV.out _⟩
                cases q2 with
                | true =>
                  go_wp2_with (first | (go_at_call 137; (with_reducible refine (rule6_calls b5 f _ (HBH.out.up HW.out) true HQ2.out).mono ?_); rintro e w7 ⟨rfl, hup7⟩; have HU7 := Aside0.mk (up_trans HW.out hup7); obtain ⟨l1, l2⟩ := (show RuleBox w7 wr.heap.size 4 from RuleBox.up (ruleBox_new _ _ _) hup7); clear hup7))
                  go_roundg gk'
                  case measure => have := HN.out; omega
                  case rel => exact ⟨3, _, rfl, rfl, ⟨by have := HN.out; omega⟩, ⟨.inr (.inr (.inr ⟨rfl, by rw [HS1.out]; cases q0 <;> cases q1 <;> rfl⟩))⟩, ⟨HU7.out⟩⟩
                | false =>
                  go_wp2_with (first | (go_at_call 137; (with_reducible refine (rule6_calls b5 f _ (HBH.out.up HW.out) false HQ2.out).mono ?_); rintro e w7 ⟨rfl, hup7⟩; have HU7 := Aside0.mk (up_trans HW.out hup7); obtain ⟨l1, l2⟩ := (show RuleBox w7 wr.heap.size 4 from RuleBox.up (ruleBox_new _ _ _) hup7); clear hup7))
                  go_roundg gk'
                  case measure => have := HN.out; omega
                  case rel => exact ⟨3, _, rfl, rfl, ⟨by have := HN.out; omega⟩, ⟨.inr (.inr (.inr ⟨rfl, by rw [HS1.out]; exact (Int.add_zero _).symm⟩))⟩, ⟨HU7.out⟩⟩
              · have hs2 : s = r := hs.trans HRR.out
                subst hs2
                clear hs
                go_wp2
                go_ret
                exact ⟨rfl, up_trans HU6.out HV.out⟩
          · have HRS3 : Aside0 ((1 : Int) = r) := ⟨by have := HRS2.out; rwa [if_neg hy00, if_neg hy12] at this⟩
            have HYN : Aside0 (y0 ≠ 0 ∧ y0 ≠ 1 ∧ y0 ≠ 2) := ⟨hy00, fun h => hy12 (.inl h), fun h => hy12 (.inr h)⟩
            clear hy00 hy12
            go_wp2
            have hA := HA.out
            have hld := h11_range (hA.up (up_drew (up_refl _)))
            have hs0 : wr.drew.cell? ⟨bd, 4, none⟩ = some (.pointer (some ⟨D.b4, 0, none⟩)) ∧ wr.drew.cell? ad = some (.int .i32 a0) ∧ wr.drew.rangeAt w.heap.size 0 [.int .i64 (f 0), .int .i64 (f 1), .int .i64 (f 2), .int .i64 (f 3), .int .i64 (f 4), .int .i64 (f 5), .int .i64 (f 6), .int .i64 (f 7), .int .i64 (f 8), .int .i64 (f 9), .int .i64 (f 10)] := ⟨((HD.out.up (up_drew HB.out)).all).1.2.2.2.2.1, up_cell (up_drew HB.out) HC0.out, hld⟩
            have hu11 := Tryz.underlying115
            have hi11 := h11_info
            clear hld hA
            go_region_held3 (fun w' => w'.cell? ⟨bd, 4, none⟩ = some (.pointer (some ⟨D.b4, 0, none⟩)) ∧ w'.cell? ad = some (.int .i32 a0) ∧ w'.rangeAt w.heap.size 0 [.int .i64 (f 0), .int .i64 (f 1), .int .i64 (f 2), .int .i64 (f 3), .int .i64 (f 4), .int .i64 (f 5), .int .i64 (f 6), .int .i64 (f 7), .int .i64 (f 8), .int .i64 (f 9), .int .i64 (f 10)]) (first | exact hs0 | exact hs1 | exact hs2) (first | (go_at_call 34; (with_reducible refine (((HD.out.up HB.out).up (up_drew (up_refl _))).Bidi HG.out a0 y0 HY.out HAR0.out.1 HAR0.out.2).mono ?_); rintro e w5 ⟨rfl, hup5⟩; have HU5 := Aside0.mk (up_trans (up_drew HB.out) hup5); have hs1 : w5.cell? ⟨bd, 4, none⟩ = some (.pointer (some ⟨D.b4, 0, none⟩)) ∧ w5.cell? ad = some (.int .i32 a0) ∧ w5.rangeAt w.heap.size 0 [.int .i64 (f 0), .int .i64 (f 1), .int .i64 (f 2), .int .i64 (f 3), .int .i64 (f 4), .int .i64 (f 5), .int .i64 (f 6), .int .i64 (f 7), .int .i64 (f 8), .int .i64 (f 9), .int .i64 (f 10)] := ⟨((HD.out.up HU5.out).all).1.2.2.2.2.1, up_cell HU5.out HC0.out, h11_range (HA.out.up (up_trans (up_drew (up_refl _)) hup5))⟩; have HU5b := Aside0.mk hup5; clear hup5) | (go_at_call 100; (with_reducible refine (rules_n y0 HYN.out f lv _).mono ?_); rintro e w6 ⟨g, b4, b5, rfl, hrl, hbl, hbh, hup6⟩; have HU6 := Aside0.mk (up_trans HU5.out hup6); have HRL := Aside0.mk hrl; have HBL := Aside0.mk hbl; have HBH := Aside0.mk hbh; have hs2 : w6.cell? ⟨bd, 4, none⟩ = some (.pointer (some ⟨D.b4, 0, none⟩)) ∧ w6.cell? ad = some (.int .i32 a0) ∧ w6.rangeAt w.heap.size 0 [.int .i64 (f 0), .int .i64 (f 1), .int .i64 (f 2), .int .i64 (f 3), .int .i64 (f 4), .int .i64 (f 5), .int .i64 (f 6), .int .i64 (f 7), .int .i64 (f 8), .int .i64 (f 9), .int .i64 (f 10)] := ⟨((HD.out.up HU6.out).all).1.2.2.2.2.1, up_cell HU6.out HC0.out, h11_range (HA.out.up (up_trans (up_drew (up_refl _)) (up_trans HU5b.out hup6)))⟩; clear hup6 hrl hbl hbh))
            go_wp2
            have HSUM := HRS3.out
            have HRR : Aside0 ((1 : Int) = r) := ⟨HSUM⟩
            clear HSUM
            go_loopg [10, 12, 54] 1 (fun k v10 v12 v54 w' => ∃ (i : Nat) (s : Int), v54 = .int .i64 i ∧ v10 = .int .i64 s ∧ Aside0 (i + k = 1) ∧ Aside0 ((i = 0 ∧ s = 0) ∨ (i = 1 ∧ s = 1)) ∧ Aside0 (Up w6 w'))
            case atStart => exact ⟨0, 0, rfl, rfl, ⟨rfl⟩, ⟨.inl ⟨rfl, rfl⟩⟩, ⟨up_refl _⟩⟩
            case round =>
              obtain ⟨i, s, rfl, rfl, HN, HS, HV⟩ := hrel
              rcases HS.out with ⟨rfl, hs⟩ | ⟨rfl, hs⟩
              · obtain ⟨k1', k2'⟩ := (HRL.out 0 _ rfl).up HV.out
                have k1 : wr.cell? ⟨g, 0, none⟩ = some (.int .i64 1) := k1'
                have k2 : wr.cell? ⟨g, 1, none⟩ = some (.func (.func 134) #[] #[]) := k2'
                clear k1' k2'
                obtain ⟨gk', rfl⟩ : ∃ gk', gk = gk' + 1 := ⟨0, by have := HN.out; omega⟩
                have HS1 := Aside0.mk hs
                clear hs
                have HW : Aside0 (Up w6 (wr.alloc (.cells #[.int .i64 1, (.func (.func 134) #[] #[])] 119))) := ⟨up_alloc HV.out _⟩
                go_wp2_with (first | (go_at_call 134; (with_reducible refine (rule3_calls _).mono ?_); rintro e w7 ⟨rfl, hup7⟩; have HU7 := Aside0.mk (up_trans HW.out hup7); obtain ⟨l1, l2⟩ := (show RuleBox w7 wr.heap.size 1 from RuleBox.up (ruleBox_new _ _ _) hup7); clear hup7))
                go_roundg gk'
                case measure => have := HN.out; omega
                case rel => exact ⟨1, _, rfl, rfl, ⟨by have := HN.out; omega⟩, ⟨.inr ⟨rfl, by rw [HS1.out]; rfl⟩⟩, ⟨HU7.out⟩⟩
              · have hs2 : s = r := hs.trans HRR.out
                subst hs2
                clear hs
                go_wp2
                go_ret
                exact ⟨rfl, up_trans HU6.out HV.out⟩
      | succ k =>
        have hlt : decide ((i : Int) < (x.length : Int)) = true := decide_eq_true (by have := HN.out; omega)
        have hlt1 : i < x.length := by have := HN.out; omega
        have hxl : x.length < 4611686018427387904 := HX.out
        have h7 : 0 ≤ (i : Int) := by omega
        have h9 : (i : Int) < (x.length : Int) := by omega
        obtain ⟨ad, hAd, hc⟩ := HI.out.at_ i h7 h9
        rw [Int.toNat_natCast] at hc
        replace hc := up_cell HB.out hc
        subst hAd
        have HAR : Aside0 (-2147483648 ≤ rd x i ∧ rd x i ≤ 2147483647) := ⟨rd_wf HWF.out i⟩
        have hls := last_step (bdF T) x i hlt1 10
        have hcs := cnt_step (bdF T) x i hlt1
        obtain ⟨a, ha⟩ : ∃ a, rd x i = a := ⟨_, rfl⟩
        rw [ha] at hc HAR hls
        simp only [ha] at hcs
        have hbr := bd_range HG.out a
        obtain ⟨m, hm⟩ := Int.eq_ofNat_of_zero_le hbr.1
        have HM := Aside0.mk hm
        have hm11 : m < 11 := by omega
        have HM11 := Aside0.mk hm11
        have h5 : 0 ≤ (m : Int) := by omega
        have h6 : (m : Int) < 11 := by omega
        rw [hm] at hls
        simp only [hm] at hcs
        have HCS := Aside0.mk hcs
        have hcl : cntD (bdF T) (x.take i) m ≤ x.length := Nat.le_trans (cnt_le _ _ _) (by rw [List.length_take]; omega)
        have HCL := Aside0.mk hcl
        obtain ⟨n, hn⟩ : ∃ n : Nat, cntD (bdF T) (x.take i) m = n := ⟨_, rfl⟩
        obtain ⟨⟨a0, a1, a2, a3, a4, a5, a6⟩, _⟩ := (HD.out.up HB.out).all
        have HNQ := Aside0.mk hn
        have hn62 : (n : Int) < 4611686018427387904 := by omega
        have hnn : 0 ≤ (n : Int) := by omega
        clear hcs ha hbr hm hcl hn
        by_cases h10 : m = 10
        · subst h10
          rw [if_pos (show ((10 : Nat) : Int) = 10 from rfl)] at hls
          have HLS := Aside0.mk hls
          clear hls
          have HM : Aside0 (bdF T a = 10) := ⟨HM.out⟩
          go_wp2_with (first | (go_at_call 34; (with_reducible refine ((HD.out.up HB.out).Bidi HG.out a (10 : Int) HM.out HAR.out.1 HAR.out.2).mono ?_); rintro e w1 ⟨rfl, hup1⟩; have HU1 := Aside0.mk (up_trans HB.out hup1); have HA1 := Aside0.mk (HA.out.up hup1); obtain ⟨y1, y2⟩ := HA1.out.cell HM11.out; replace y1 : w1.cell? ⟨w.heap.size, 10, none⟩ = some (.int .i64 (n : Int)) := y1.trans (by rw [HNQ.out]); clear hup1))
          go_roundg k
          case measure => have := HN.out; omega
          case rel => exact ⟨i + 1, rfl, by rw [HLS.out], ⟨by have := HN.out; omega⟩, ⟨by
            have h1 := HA1.out.set HM11.out ((n : Int) + 1)
            have e : (fun k : Nat => if k = 10 then (n : Int) + 1 else ((cntD (bdF T) (x.take i) k : Nat) : Int)) = fun k : Nat => ((cntD (bdF T) (x.take (i + 1)) k : Nat) : Int) := by
              funext k
              have h2 := HCS.out (k : Int)
              by_cases hk : k = 10
              · rw [if_pos hk, h2, hk, if_pos rfl, ← HNQ.out]
                omega
              · rw [if_neg hk, h2, if_neg (by omega), Nat.add_zero]
            rw [e] at h1
            exact h1⟩, ⟨HU1.out.setCell (Nat.le_refl _) _⟩⟩
        · have e10 : ((m : Int) != 10) = true := bne_iff_ne.mpr (by omega)
          have e11 : ((m : Int) == 10) = false := beq_eq_false_iff_ne.mpr (by omega)
          have e12 : (m != 10) = true := bne_iff_ne.mpr h10
          have e13 : (m == 10) = false := beq_eq_false_iff_ne.mpr h10
          rw [if_neg (by omega)] at hls
          have HLS := Aside0.mk hls
          clear hls h10
          go_wp2_with (first | (go_at_call 34; (with_reducible refine ((HD.out.up HB.out).Bidi HG.out a (m : Int) HM.out HAR.out.1 HAR.out.2).mono ?_); rintro e w1 ⟨rfl, hup1⟩; have HU1 := Aside0.mk (up_trans HB.out hup1); have HA1 := Aside0.mk (HA.out.up hup1); obtain ⟨y1, y2⟩ := HA1.out.cell HM11.out; replace y1 : w1.cell? ⟨w.heap.size, m, none⟩ = some (.int .i64 (n : Int)) := y1.trans (by rw [HNQ.out]); clear hup1))
          go_roundg k
          case measure => have := HN.out; omega
          case rel => exact ⟨i + 1, rfl, by rw [HLS.out], ⟨by have := HN.out; omega⟩, ⟨by
            have h1 := HA1.out.set HM11.out ((n : Int) + 1)
            have e : (fun k : Nat => if k = m then (n : Int) + 1 else ((cntD (bdF T) (x.take i) k : Nat) : Int)) = fun k : Nat => ((cntD (bdF T) (x.take (i + 1)) k : Nat) : Int) := by
              funext k
              have h2 := HCS.out (k : Int)
              by_cases hk : k = m
              · rw [if_pos hk, h2, hk, if_pos rfl, ← HNQ.out]
                omega
              · rw [if_neg hk, h2, if_neg (by omega), Nat.add_zero]
            rw [e] at h1
            exact h1⟩, ⟨HU1.out.setCell (Nat.le_refl _) _⟩⟩
end
end Go.Proofs.YthneeainigdmhaaGreat.M
