-- Written by xprint.py, a program of this session's own, out of the translation.
import Derived.Test.YticocjpfhllelaaXP0
import Derived.Test.YticocjpfhllelaaXP5
import Derived.Test.YticocjpfhllelaaXP10
import Derived.Test.YticocjpfhllelaaERStep
namespace Go.Proofs.Yticocjpfhllelaa.XP
open Go.RowKit Go.Proofs.YticocjpfhllelaaW.PrintWords Go.Proofs.YticocjpfhllelaaW.PrintLast Go.Proofs.YticocjpfhllelaaW.PrintMore
attribute [local go_sem] max2_int min2_int max_two min_two max_three min_three max_four min_four   -- for this text's walks alone
set_option linter.unusedVariables false
set_option linter.unusedSimpArgs false

/-! ### endonymlaw11_PunyHands: function 9 -/
mutual
def endonymlaw11_PunyHands.j1 : Nat → List Int → List Int → Option (Bool)
  | 0, _, _ => none
  | k + 1, x1, x5 => (endonymref3_Encode.f k x5).bind fun bt300 => (if (x5.length : Int) > 0 then (if bt300.1.size + 1 ≤ 9223372036854775807 then (endonymlaw11_PunyHands.j2 k x1 x5 (bt300.1 ++ (⟨#[45]⟩ : ByteArray))) else (none)) else (endonymlaw11_PunyHands.j2 k x1 x5 bt300.1))
def endonymlaw11_PunyHands.j2 : Nat → List Int → List Int → ByteArray → Option (Bool)
  | 0, _, _, _ => none
  | k + 1, x1, x5, x7 => (endonymref11_Begin.f x5).bind fun bt303 => (endonymlaw11_PunyHands.l1 k x1 x7 0 bt303.1 bt303.2.1 bt303.2.2.1 bt303.2.2.2.1 bt303.2.2.2.2)
def endonymlaw11_PunyHands.l1 : Nat → List Int → ByteArray → Int → List Int → Int → Int → Int → Bool → Option (Bool)
  | 0, _, _, _, _, _, _, _, _ => none
  | k + 1, x1, x7, x11, x311000, x311001, x311002, x311003, x311004 => if x11 < (x1.length : Int) then (endonymlaw11_PunyHands.j4 k x1 x7 x11 (decide (x11 < 40)) x311000 x311001 x311002 x311003 x311004) else (endonymlaw11_PunyHands.j4 k x1 x7 x11 false x311000 x311001 x311002 x311003 x311004)
def endonymlaw11_PunyHands.j4 : Nat → List Int → ByteArray → Int → Bool → List Int → Int → Int → Int → Bool → Option (Bool)
  | 0, _, _, _, _, _, _, _, _, _ => none
  | k + 1, x1, x7, x11, x56, x311000, x311001, x311002, x311003, x311004 => if x56 = true then (if 0 ≤ x11 then (if x11 < (x1.length : Int) then ((endonymref11_Written.f k (Go.bits .and .i64 (rd x1 x11) 1099511627775) x311003).bind fun t318 => (if x7.size + t318.size ≤ 9223372036854775807 then (if (Go.bits .and .i64 (rd x1 x11) 1099511627775) ≤ 2147483647 then ((endonymref11_Step.f x311000 x311001 x311002 x311003 x311004 (Go.bits .and .i64 (rd x1 x11) 1099511627775)).bind fun bt319 => (endonymlaw11_PunyHands.j5 k x1 (x7 ++ t318) x11 (Go.bits .and .i64 (rd x1 x11) 1099511627775) bt319.2.2.2.2.2 bt319.1 bt319.2.1 bt319.2.2.1 bt319.2.2.2.1 bt319.2.2.2.2.1)) else (endonymlaw11_PunyHands.j5 k x1 (x7 ++ t318) x11 (Go.bits .and .i64 (rd x1 x11) 1099511627775) (decide ((Go.bits .and .i64 (rd x1 x11) 1099511627775) ≤ 2147483647)) x311000 x311001 x311002 x311003 x311004)) else (none))) else (none)) else (none)) else ((puny_Decode.f k x7).bind fun bt311 => ((endonymlaw11_told.f k).bind fun t315 => (if t315 = true then (if bt311.2 = 0 then ((endonymref3_Same.f k bt311.1 x311000).bind fun t316 => (some t316)) else (some false)) else (some false))))
def endonymlaw11_PunyHands.j5 : Nat → List Int → ByteArray → Int → Int → Bool → List Int → Int → Int → Int → Bool → Option (Bool)
  | 0, _, _, _, _, _, _, _, _, _, _ => none
  | k + 1, x1, x7, x11, x12, x13, x311000, x311001, x311002, x311003, x311004 => if x13 = true then (endonymlaw11_PunyHands.l1 k x1 x7 (wrap64 (x11 + 1)) x311000 x311001 x311002 x311003 x311004) else ((puny_Decode.f k x7).bind fun bt327 => ((endonymlaw11_told.f k).bind fun t331 => (if t331 = true then (if (bt327.1.length : Int) = 0 then (if ((bt327.2 == 113) == (decide (x12 > 2147483647))) = true then (some ((bt327.2 == 31) == (decide (x12 ≤ 2147483647)))) else (some false)) else (some false)) else (some false))))
def endonymlaw11_PunyHands.l0 : Nat → List Int → List Int → List Int → Int → Option (Bool)
  | 0, _, _, _, _ => none
  | k + 1, x0, x1, x5, x6 => if x6 < (x0.length : Int) then (if x6 < 60 then (if 0 ≤ x6 then (if x5.length < 35184372088832 then (endonymlaw11_PunyHands.l0 k x0 x1 (x5 ++ [Go.bits .and .i32 (rd x0 x6) 127]) (wrap64 (x6 + 1))) else (none)) else (none)) else (endonymlaw11_PunyHands.j1 k x1 x5)) else (endonymlaw11_PunyHands.j1 k x1 x5)
end
def endonymlaw11_PunyHands.f (k : Nat) (l0 : List Int) (l1 : List Int) : Option (Bool) := endonymlaw11_PunyHands.l0 k l0 l1 ([] : List Int) 0
theorem endonymlaw11_PunyHands.mono_l : ∀ k, (∀ y0 y1, LeO (endonymlaw11_PunyHands.j1 k y0 y1) (endonymlaw11_PunyHands.j1 (k + 1) y0 y1)) ∧ (∀ y0 y1 y2, LeO (endonymlaw11_PunyHands.j2 k y0 y1 y2) (endonymlaw11_PunyHands.j2 (k + 1) y0 y1 y2)) ∧ (∀ y0 y1 y2 y3 y4 y5 y6 y7, LeO (endonymlaw11_PunyHands.l1 k y0 y1 y2 y3 y4 y5 y6 y7) (endonymlaw11_PunyHands.l1 (k + 1) y0 y1 y2 y3 y4 y5 y6 y7)) ∧ (∀ y0 y1 y2 y3 y4 y5 y6 y7 y8, LeO (endonymlaw11_PunyHands.j4 k y0 y1 y2 y3 y4 y5 y6 y7 y8) (endonymlaw11_PunyHands.j4 (k + 1) y0 y1 y2 y3 y4 y5 y6 y7 y8)) ∧ (∀ y0 y1 y2 y3 y4 y5 y6 y7 y8 y9, LeO (endonymlaw11_PunyHands.j5 k y0 y1 y2 y3 y4 y5 y6 y7 y8 y9) (endonymlaw11_PunyHands.j5 (k + 1) y0 y1 y2 y3 y4 y5 y6 y7 y8 y9)) ∧ (∀ y0 y1 y2 y3, LeO (endonymlaw11_PunyHands.l0 k y0 y1 y2 y3) (endonymlaw11_PunyHands.l0 (k + 1) y0 y1 y2 y3))
  | 0 => ⟨fun _ _ r h => by simp [endonymlaw11_PunyHands.j1] at h, fun _ _ _ r h => by simp [endonymlaw11_PunyHands.j2] at h, fun _ _ _ _ _ _ _ _ r h => by simp [endonymlaw11_PunyHands.l1] at h, fun _ _ _ _ _ _ _ _ _ r h => by simp [endonymlaw11_PunyHands.j4] at h, fun _ _ _ _ _ _ _ _ _ _ r h => by simp [endonymlaw11_PunyHands.j5] at h, fun _ _ _ _ r h => by simp [endonymlaw11_PunyHands.l0] at h⟩
  | k + 1 => by
    obtain ⟨ih0, ih1, ih2, ih3, ih4, ih5⟩ := endonymlaw11_PunyHands.mono_l k
    refine ⟨?_, ?_, ?_, ?_, ?_, ?_⟩
    · intro y0 y1
      unfold endonymlaw11_PunyHands.j1
      repeat' first
      | (with_reducible exact ih0 _ _)
      | (with_reducible exact ih1 _ _ _)
      | (with_reducible exact ih2 _ _ _ _ _ _ _ _)
      | (with_reducible exact ih3 _ _ _ _ _ _ _ _ _)
      | (with_reducible exact ih4 _ _ _ _ _ _ _ _ _ _)
      | (with_reducible exact ih5 _ _ _ _)
      | (with_reducible exact endonymlaw11_told.mono _)
      | (with_reducible exact endonymref11_Written.mono _ _ _)
      | (with_reducible exact endonymref3_Encode.mono _ _)
      | (with_reducible exact endonymref3_Same.mono _ _ _)
      | (with_reducible exact puny_Decode.mono _ _)
      | (with_reducible exact LeO.refl _)
      | (with_reducible exact LeO.none _)
      | (with_reducible refine LeO.ite ?_ ?_)
      | (with_reducible refine LeO.bind ?_ (fun _ => ?_))
      | exact ih0 _ _
      | exact ih1 _ _ _
      | exact ih2 _ _ _ _ _ _ _ _
      | exact ih3 _ _ _ _ _ _ _ _ _
      | exact ih4 _ _ _ _ _ _ _ _ _ _
      | exact ih5 _ _ _ _
      | exact endonymlaw11_told.mono _
      | exact endonymref11_Written.mono _ _ _
      | exact endonymref3_Encode.mono _ _
      | exact endonymref3_Same.mono _ _ _
      | exact puny_Decode.mono _ _
      | exact LeO.none _
      | refine LeO.ite ?_ ?_
      | refine LeO.bind ?_ (fun _ => ?_)
    · intro y0 y1 y2
      unfold endonymlaw11_PunyHands.j2
      repeat' first
      | (with_reducible exact ih0 _ _)
      | (with_reducible exact ih1 _ _ _)
      | (with_reducible exact ih2 _ _ _ _ _ _ _ _)
      | (with_reducible exact ih3 _ _ _ _ _ _ _ _ _)
      | (with_reducible exact ih4 _ _ _ _ _ _ _ _ _ _)
      | (with_reducible exact ih5 _ _ _ _)
      | (with_reducible exact endonymlaw11_told.mono _)
      | (with_reducible exact endonymref11_Written.mono _ _ _)
      | (with_reducible exact endonymref3_Encode.mono _ _)
      | (with_reducible exact endonymref3_Same.mono _ _ _)
      | (with_reducible exact puny_Decode.mono _ _)
      | (with_reducible exact LeO.refl _)
      | (with_reducible exact LeO.none _)
      | (with_reducible refine LeO.ite ?_ ?_)
      | (with_reducible refine LeO.bind ?_ (fun _ => ?_))
      | exact ih0 _ _
      | exact ih1 _ _ _
      | exact ih2 _ _ _ _ _ _ _ _
      | exact ih3 _ _ _ _ _ _ _ _ _
      | exact ih4 _ _ _ _ _ _ _ _ _ _
      | exact ih5 _ _ _ _
      | exact endonymlaw11_told.mono _
      | exact endonymref11_Written.mono _ _ _
      | exact endonymref3_Encode.mono _ _
      | exact endonymref3_Same.mono _ _ _
      | exact puny_Decode.mono _ _
      | exact LeO.none _
      | refine LeO.ite ?_ ?_
      | refine LeO.bind ?_ (fun _ => ?_)
    · intro y0 y1 y2 y3 y4 y5 y6 y7
      unfold endonymlaw11_PunyHands.l1
      repeat' first
      | (with_reducible exact ih0 _ _)
      | (with_reducible exact ih1 _ _ _)
      | (with_reducible exact ih2 _ _ _ _ _ _ _ _)
      | (with_reducible exact ih3 _ _ _ _ _ _ _ _ _)
      | (with_reducible exact ih4 _ _ _ _ _ _ _ _ _ _)
      | (with_reducible exact ih5 _ _ _ _)
      | (with_reducible exact endonymlaw11_told.mono _)
      | (with_reducible exact endonymref11_Written.mono _ _ _)
      | (with_reducible exact endonymref3_Encode.mono _ _)
      | (with_reducible exact endonymref3_Same.mono _ _ _)
      | (with_reducible exact puny_Decode.mono _ _)
      | (with_reducible exact LeO.refl _)
      | (with_reducible exact LeO.none _)
      | (with_reducible refine LeO.ite ?_ ?_)
      | (with_reducible refine LeO.bind ?_ (fun _ => ?_))
      | exact ih0 _ _
      | exact ih1 _ _ _
      | exact ih2 _ _ _ _ _ _ _ _
      | exact ih3 _ _ _ _ _ _ _ _ _
      | exact ih4 _ _ _ _ _ _ _ _ _ _
      | exact ih5 _ _ _ _
      | exact endonymlaw11_told.mono _
      | exact endonymref11_Written.mono _ _ _
      | exact endonymref3_Encode.mono _ _
      | exact endonymref3_Same.mono _ _ _
      | exact puny_Decode.mono _ _
      | exact LeO.none _
      | refine LeO.ite ?_ ?_
      | refine LeO.bind ?_ (fun _ => ?_)
    · intro y0 y1 y2 y3 y4 y5 y6 y7 y8
      unfold endonymlaw11_PunyHands.j4
      repeat' first
      | (with_reducible exact ih0 _ _)
      | (with_reducible exact ih1 _ _ _)
      | (with_reducible exact ih2 _ _ _ _ _ _ _ _)
      | (with_reducible exact ih3 _ _ _ _ _ _ _ _ _)
      | (with_reducible exact ih4 _ _ _ _ _ _ _ _ _ _)
      | (with_reducible exact ih5 _ _ _ _)
      | (with_reducible exact endonymlaw11_told.mono _)
      | (with_reducible exact endonymref11_Written.mono _ _ _)
      | (with_reducible exact endonymref3_Encode.mono _ _)
      | (with_reducible exact endonymref3_Same.mono _ _ _)
      | (with_reducible exact puny_Decode.mono _ _)
      | (with_reducible exact LeO.refl _)
      | (with_reducible exact LeO.none _)
      | (with_reducible refine LeO.ite ?_ ?_)
      | (with_reducible refine LeO.bind ?_ (fun _ => ?_))
      | exact ih0 _ _
      | exact ih1 _ _ _
      | exact ih2 _ _ _ _ _ _ _ _
      | exact ih3 _ _ _ _ _ _ _ _ _
      | exact ih4 _ _ _ _ _ _ _ _ _ _
      | exact ih5 _ _ _ _
      | exact endonymlaw11_told.mono _
      | exact endonymref11_Written.mono _ _ _
      | exact endonymref3_Encode.mono _ _
      | exact endonymref3_Same.mono _ _ _
      | exact puny_Decode.mono _ _
      | exact LeO.none _
      | refine LeO.ite ?_ ?_
      | refine LeO.bind ?_ (fun _ => ?_)
    · intro y0 y1 y2 y3 y4 y5 y6 y7 y8 y9
      unfold endonymlaw11_PunyHands.j5
      repeat' first
      | (with_reducible exact ih0 _ _)
      | (with_reducible exact ih1 _ _ _)
      | (with_reducible exact ih2 _ _ _ _ _ _ _ _)
      | (with_reducible exact ih3 _ _ _ _ _ _ _ _ _)
      | (with_reducible exact ih4 _ _ _ _ _ _ _ _ _ _)
      | (with_reducible exact ih5 _ _ _ _)
      | (with_reducible exact endonymlaw11_told.mono _)
      | (with_reducible exact endonymref11_Written.mono _ _ _)
      | (with_reducible exact endonymref3_Encode.mono _ _)
      | (with_reducible exact endonymref3_Same.mono _ _ _)
      | (with_reducible exact puny_Decode.mono _ _)
      | (with_reducible exact LeO.refl _)
      | (with_reducible exact LeO.none _)
      | (with_reducible refine LeO.ite ?_ ?_)
      | (with_reducible refine LeO.bind ?_ (fun _ => ?_))
      | exact ih0 _ _
      | exact ih1 _ _ _
      | exact ih2 _ _ _ _ _ _ _ _
      | exact ih3 _ _ _ _ _ _ _ _ _
      | exact ih4 _ _ _ _ _ _ _ _ _ _
      | exact ih5 _ _ _ _
      | exact endonymlaw11_told.mono _
      | exact endonymref11_Written.mono _ _ _
      | exact endonymref3_Encode.mono _ _
      | exact endonymref3_Same.mono _ _ _
      | exact puny_Decode.mono _ _
      | exact LeO.none _
      | refine LeO.ite ?_ ?_
      | refine LeO.bind ?_ (fun _ => ?_)
    · intro y0 y1 y2 y3
      unfold endonymlaw11_PunyHands.l0
      repeat' first
      | (with_reducible exact ih0 _ _)
      | (with_reducible exact ih1 _ _ _)
      | (with_reducible exact ih2 _ _ _ _ _ _ _ _)
      | (with_reducible exact ih3 _ _ _ _ _ _ _ _ _)
      | (with_reducible exact ih4 _ _ _ _ _ _ _ _ _ _)
      | (with_reducible exact ih5 _ _ _ _)
      | (with_reducible exact endonymlaw11_told.mono _)
      | (with_reducible exact endonymref11_Written.mono _ _ _)
      | (with_reducible exact endonymref3_Encode.mono _ _)
      | (with_reducible exact endonymref3_Same.mono _ _ _)
      | (with_reducible exact puny_Decode.mono _ _)
      | (with_reducible exact LeO.refl _)
      | (with_reducible exact LeO.none _)
      | (with_reducible refine LeO.ite ?_ ?_)
      | (with_reducible refine LeO.bind ?_ (fun _ => ?_))
      | exact ih0 _ _
      | exact ih1 _ _ _
      | exact ih2 _ _ _ _ _ _ _ _
      | exact ih3 _ _ _ _ _ _ _ _ _
      | exact ih4 _ _ _ _ _ _ _ _ _ _
      | exact ih5 _ _ _ _
      | exact endonymlaw11_told.mono _
      | exact endonymref11_Written.mono _ _ _
      | exact endonymref3_Encode.mono _ _
      | exact endonymref3_Same.mono _ _ _
      | exact puny_Decode.mono _ _
      | exact LeO.none _
      | refine LeO.ite ?_ ?_
      | refine LeO.bind ?_ (fun _ => ?_)
theorem endonymlaw11_PunyHands.mono : ∀ a0 a1 k, LeO (endonymlaw11_PunyHands.f k a0 a1) (endonymlaw11_PunyHands.f (k + 1) a0 a1) := by
  intro a0 a1 k
  obtain ⟨ih0, ih1, ih2, ih3, ih4, ih5⟩ := endonymlaw11_PunyHands.mono_l k
  unfold endonymlaw11_PunyHands.f
  repeat' first
      | (with_reducible exact ih0 _ _)
      | (with_reducible exact ih1 _ _ _)
      | (with_reducible exact ih2 _ _ _ _ _ _ _ _)
      | (with_reducible exact ih3 _ _ _ _ _ _ _ _ _)
      | (with_reducible exact ih4 _ _ _ _ _ _ _ _ _ _)
      | (with_reducible exact ih5 _ _ _ _)
      | (with_reducible exact endonymlaw11_told.mono _)
      | (with_reducible exact endonymref11_Written.mono _ _ _)
      | (with_reducible exact endonymref3_Encode.mono _ _)
      | (with_reducible exact endonymref3_Same.mono _ _ _)
      | (with_reducible exact puny_Decode.mono _ _)
      | (with_reducible exact LeO.refl _)
      | (with_reducible exact LeO.none _)
      | (with_reducible refine LeO.ite ?_ ?_)
      | (with_reducible refine LeO.bind ?_ (fun _ => ?_))
      | exact ih0 _ _
      | exact ih1 _ _ _
      | exact ih2 _ _ _ _ _ _ _ _
      | exact ih3 _ _ _ _ _ _ _ _ _
      | exact ih4 _ _ _ _ _ _ _ _ _ _
      | exact ih5 _ _ _ _
      | exact endonymlaw11_told.mono _
      | exact endonymref11_Written.mono _ _ _
      | exact endonymref3_Encode.mono _ _
      | exact endonymref3_Same.mono _ _ _
      | exact puny_Decode.mono _ _
      | exact LeO.none _
      | refine LeO.ite ?_ ?_
      | refine LeO.bind ?_ (fun _ => ?_)
set_option maxHeartbeats 8000000 in
set_option maxRecDepth 100000 in
theorem endonymlaw11_PunyHands.calls (k : Nat) (A0 : Option Addr) (c0 : Nat) (l0 : List Int) (A1 : Option Addr) (c1 : Nat) (l1 : List Int) (r : Bool) (w : World) (hr0 : Kd.C (Kd.int .i32) w A0 l0.length l0) (hc0 : l0.length ≤ c0) (hr1 : Kd.C (Kd.int .i64) w A1 l1.length l1) (hc1 : l1.length ≤ c1) (h : endonymlaw11_PunyHands.f k l0 l1 = some r) :
    Calls Try.prog 9 #[.slice A0 l0.length c0, .slice A1 l1.length c1] w fun e w' => e = .returned (.bool r) ∧ Below w.heap.size w w' := by
  have hu45 := Try.underlying45
  have HR0 := Aside0.mk hr0
  have HC0 := Aside0.mk hc0
  clear hr0 hc0
  have HR1 := Aside0.mk hr1
  have HC1 := Aside0.mk hc1
  clear hr1 hc1
  have HB := Aside0.mk (Below.refl w.heap.size w)
  have H : (endonymlaw11_PunyHands.l0 k l0 l1 ([] : List Int) 0) = some r := h
  clear h
  have HC3 := Aside0.mk H
  clear H
  go_enter Try.func9, Try.ntmps9
  go_upto_block 0 with (fail)
  go_cut [5] (fun v5 wc => ∃ (kq : Nat) (x5_2 : List Int), Aside0 (endonymlaw11_PunyHands.j1 kq l1 x5_2 = some r) ∧ Aside0 (kq ≤ k) ∧ Aside0 (Kd.R (Kd.int .i32) 21 wc w.heap.size (fun _ => True) v5 x5_2) ∧ Aside0 (Below w.heap.size w wc))
  case first =>
    have H := HC3.out
    clear HC3
    have H' := Aside0.mk H
    clear H
    go_wp2
    go_loopg [5, 6] k (fun kq v5 v6 w' => ∃ (x5_1 : List Int) (x6_1 : Int), v6 = .int .i64 x6_1 ∧ Aside0 (endonymlaw11_PunyHands.l0 kq l0 l1 x5_1 x6_1 = some r) ∧ Aside0 (kq ≤ k) ∧ Aside0 (Kd.R (Kd.int .i32) 21 w' w.heap.size (fun _ => True) v5 x5_1) ∧ Aside0 (Below w.heap.size w w'))
    case atStart => exact ⟨(([] : List Int)), (0), (by first | rfl | (simp; done) | (simp [*]; done)), H', ⟨Nat.le_refl _⟩, ⟨by first | exact Kd.R_nil _ _ _ _ _ | exact Kd.N_nil _ _ _ _ _ | exact Kd.V_nil _ _ _ _ _ | exact Kd.Q_nil _ _ _ _ _ | exact Kd.S_nil _ _ _ _ _⟩, ⟨by repeat (first | (with_reducible first | exact HB.out | apply below_alloc | apply pw_below_drewN | apply below_drew1) | exact HB.out)⟩⟩
    case round =>
      clear H'
      try clear c1
      try clear p2
      obtain ⟨x5_1, x6_1, rfl, HA, HK1, HO_5, HB⟩ := hrel
      cases gk with
      | zero => exact absurd HA.out (by simp [endonymlaw11_PunyHands.l0])
      | succ k1 =>
        have H := HA.out
        clear HA
        simp only [endonymlaw11_PunyHands.l0] at H
        by_cases c4 : x6_1 < (l0.length : Int)
        · rw [if_pos c4] at H
          have c4b0 : decide (x6_1 < (l0.length : Int)) = true := decide_eq_true c4
          clear c4
          (first | rw [c4b0] | (simp only [i64_w, i32_w]; rw [c4b0]) | skip)
          by_cases c5 : x6_1 < 60
          · rw [if_pos c5] at H
            have c5b0 : decide (x6_1 < 60) = true := decide_eq_true c5
            clear c5
            by_cases c6 : 0 ≤ x6_1
            · rw [if_pos c6] at H
              have c6b0 : decide (0 ≤ x6_1) = true := decide_eq_true c6
              clear c6
              by_cases c7 : x5_1.length < 35184372088832
              · rw [if_pos c7] at H
                have LMc7 := Aside0.mk c7
                clear c7
                obtain ⟨y297, hy297⟩ : ∃ y_ : List Int, y_ = (x5_1 ++ [Go.bits .and .i32 (rd l0 x6_1) 127]) := ⟨_, rfl⟩
                replace H : (endonymlaw11_PunyHands.l0 k1 l0 l1 y297 (wrap64 (x6_1 + 1))) = some r := by first | (rw [hy297]; with_reducible exact H) | (have H2_ := (Option.bind_some _ _).symm.trans H; rw [hy297]; with_reducible exact H2_) | (have H2_ := (Option.bind_some _ _).symm.trans H; with_reducible exact H2_) | with_reducible exact H | (rw [hy297]; exact H) | exact H
                have Ny297 := Aside0.mk hy297
                clear hy297
                have H' := Aside0.mk H
                clear H
                have p296 : 0 ≤ (x6_1 : Int) := of_decide_eq_true (by first | (with_reducible assumption) | assumption)
                have q296 : x6_1 < (l0.length : Int) := of_decide_eq_true (by first | (with_reducible assumption) | assumption)
                obtain ⟨ad296, e296, hx296_0⟩ := Kd.at_int HR0.out x6_1 p296 q296
                cases e296
                replace hx296_0 := (HB.out.cell (World.block_lt_of_cell? w _ hx296_0)).trans hx296_0
                replace p296 := eq_true p296
                replace q296 := eq_true q296
                go_wp2_with (first | ((with_reducible refine gate_builtin (b := .append) (xs := #[.tmp 28, .tmp 34]) rfl ?_); (try (refine gate_guard (by rfl) ?_; dsimp only)); at_builtin; refine Kd.R_append (Kd.int .i32) (w0 := w) w.heap.size rfl (.tmp 28) (.tmp 34) 22 21 (.int .i32 0) 4 rfl Try.underlying22 info21 rfl (by decide) (by omega) u5 x5_1 (Go.bits .and .i32 (rd l0 x6_1) 127) [.int .i32 (Go.bits .and .i32 (rd l0 x6_1) 127)] (fun _ => True) (fun _ => False) rfl rfl ?aP (fun _ hk => hk.elim) ?aF ?aO ?aB ?aS ?aL ?_; (case aP => exact rfl); (case aB => exact (by repeat (first | (with_reducible first | exact HB.out | apply below_alloc | apply pw_below_drewN | apply below_drew1) | exact HB.out))); (case aF => exact (fun _ _ => trivial)); (case aO => exact (by (with_reducible repeat (first | apply Kd.R_alloc | apply Kd.R_drewN | apply Kd.R_drew)); exact HO_5.out)); (case aS => exact (below_size (by repeat (first | (with_reducible first | exact HB.out | apply below_alloc | apply pw_below_drewN | apply below_drew1) | exact HB.out)))); (case aL => have := LMc7.out; omega); intro v298 w8 ho hb hg hat; rw [← Ny297.out] at ho; have n0_ := Aside0.mk (hb); have n1_ := Aside0.mk (ho); clear HB; clear HO_5; have HB := n0_; have HO299 := n1_; clear n0_ n1_; clear ho hb hg hat))
                go_roundg k1
                case measure => have := HK1.out; omega
                case rel => exact ⟨(y297), (wrap64 (x6_1 + 1)), (by first | rfl | (simp; done) | (simp [*]; done)), H', ⟨by have := HK1.out; omega⟩, ⟨by (with_reducible repeat (first | apply Kd.R_alloc | apply Kd.R_drewN | apply Kd.R_drew)); exact HO299.out⟩, ⟨by repeat (first | (with_reducible first | exact HB.out | apply below_alloc | apply pw_below_drewN | apply below_drew1) | exact HB.out)⟩⟩
              · rw [if_neg c7] at H
                exact absurd H (by simp)
            · rw [if_neg c6] at H
              exact absurd H (by simp)
          · rw [if_neg c5] at H
            have c5b0 : decide (x6_1 < 60) = false := decide_eq_false c5
            clear c5
            have H' := Aside0.mk H
            clear H
            go_wp2
            go_meet
            case rel => exact ⟨_, (x5_1), H', ⟨by have := HK1.out; first | omega | exact Nat.le_refl _⟩, ⟨by (with_reducible repeat (first | apply Kd.R_alloc | apply Kd.R_drewN | apply Kd.R_drew)); exact HO_5.out⟩, ⟨by repeat (first | (with_reducible first | exact HB.out | apply below_alloc | apply pw_below_drewN | apply below_drew1) | exact HB.out)⟩⟩
        · rw [if_neg c4] at H
          have c4b0 : decide (x6_1 < (l0.length : Int)) = false := decide_eq_false c4
          clear c4
          (first | rw [c4b0] | (simp only [i64_w, i32_w]; rw [c4b0]) | skip)
          have H' := Aside0.mk H
          clear H
          go_wp2
          go_meet
          case rel => exact ⟨_, (x5_1), H', ⟨by have := HK1.out; first | omega | exact Nat.le_refl _⟩, ⟨by (with_reducible repeat (first | apply Kd.R_alloc | apply Kd.R_drewN | apply Kd.R_drew)); exact HO_5.out⟩, ⟨by repeat (first | (with_reducible first | exact HB.out | apply below_alloc | apply pw_below_drewN | apply below_drew1) | exact HB.out)⟩⟩
  case rest =>
    clear HC3
    try clear c1
    try clear p2
    try clear q2
    try clear hx2
    try clear c4
    try clear c4b0
    try clear c5
    try clear c5b0
    try clear c6
    try clear c6b0
    try clear p6
    try clear c7
    try clear hx296_0
    try clear p2
    try clear p296
    try clear q296
    obtain ⟨kq, x5_2, HA, HJ2, HO_5, HB⟩ := hcut
    cases kq with
    | zero => exact absurd HA.out (by simp [endonymlaw11_PunyHands.j1])
    | succ kj2 =>
      have H := HA.out
      clear HA
      simp only [endonymlaw11_PunyHands.j1] at H
      replace H := Option.bind_eq_some_iff.mp H
      obtain ⟨⟨t300, t301, t302⟩, A90, H⟩ := H
      replace H : (if (x5_2.length : Int) > 0 then (if t300.size + 1 ≤ 9223372036854775807 then (endonymlaw11_PunyHands.j2 kj2 l1 x5_2 (t300 ++ (⟨#[45]⟩ : ByteArray))) else (none)) else (endonymlaw11_PunyHands.j2 kj2 l1 x5_2 t300)) = some r := H
      have A9 := Aside0.mk A90
      clear A90
      have HC10 := Aside0.mk H
      clear H
      obtain ⟨Ao11, co11, eo11⟩ := Kd.R_slice HO_5.out
      subst eo11
      go_upto_if 44 with (first | ((with_reducible refine gate_callee (f := 22) rfl ?_); refine goesL_ (some 38) rfl rfl Try.func22 (by kernel_rfl) rfl #[.slice Ao11 x5_2.length co11] rfl (by (try simp only [List.map_toArray, List.map_cons, List.map_nil]); first | done | rfl | (simp only [List.length_drop, List.length_take]; rfl)) ?_; (with_reducible refine (endonymref3_Encode.calls kj2 _ _ x5_2 t300 t301 t302 _ ?side1 ?side2 A9.out).mono ?_); (case side1 => repeat (first | exact (Kd.R_reads' HO_5.out).2.2 | (with_reducible refine Kd.C_alloc ?_ _) | (with_reducible refine Kd.C_drewN ?_ _) | (with_reducible refine Kd.C_drew ?_))); (case side2 => exact (Kd.R_reads' HO_5.out).2.1); rintro e w12 ⟨rfl, hb⟩; refine ⟨_, rfl, ?_⟩; have n0_ := Aside0.mk (Kd.R_below (by (with_reducible repeat (first | apply Kd.R_alloc | apply Kd.R_drewN | apply Kd.R_drew)); exact HO_5.out) hb); have n1_ := Aside0.mk (below_step (by repeat (first | (with_reducible first | exact HB.out | apply below_alloc | apply pw_below_drewN | apply below_drew1) | exact HB.out)) hb); clear HO_5; clear HB; have HO_5 := n0_; have HB := n1_; clear n0_ n1_; (try clear hb); (try clear hb2); (try clear hk); (try clear hi)))
      (try simp only [Act.put, List.setIfInBounds_toArray, List.set_cons_zero, List.set_cons_succ])
      go_cut [7] (fun v7 wc => ∃ (kq : Nat) (x7_9 : ByteArray), v7 = .string x7_9 ∧ Aside0 (endonymlaw11_PunyHands.j2 kq l1 x5_2 x7_9 = some r) ∧ Aside0 (kq ≤ kj2) ∧ Aside0 (Kd.R (Kd.int .i32) 21 wc w.heap.size (fun _ => True) (.slice Ao11 x5_2.length co11) x5_2) ∧ Aside0 (Below w.heap.size w wc))
      case first =>
        have H := HC10.out
        clear HC10
        by_cases c13 : (x5_2.length : Int) > 0
        · rw [if_pos c13] at H
          have c13b0 : decide (0 < (x5_2.length : Int)) = true := decide_eq_true c13
          have c13b1 : decide (0 < x5_2.length) = true := decide_eq_true (by omega)
          clear c13
          (first | rw [c13b0] | (simp only [i64_w, i32_w]; rw [c13b0]) | skip)
          by_cases c14 : t300.size + 1 ≤ 9223372036854775807
          · rw [if_pos c14] at H
            have c14b0 := eq_true c14
            have c14b1 : decide (t300.size + 1 ≤ 9223372036854775807) = true := decide_eq_true c14
            try have c14b2 : (9223372036854775807 < t300.size + 1) = False := eq_false (Nat.not_lt.2 c14)
            have H' := Aside0.mk H
            clear H
            go_wp2
            any_goals (try (first | exact absurd (of_decide_eq_true c13b1) (by assumption) | exact absurd (show 0 < x5_2.length by assumption) (of_decide_eq_false c13b1)))
            go_meet
            case rel => exact ⟨_, (t300 ++ (⟨#[45]⟩ : ByteArray)), (by first | rfl | (simp; done) | (simp [*]; done)), H', ⟨by have := HJ2.out; first | omega | exact Nat.le_refl _⟩, ⟨by (with_reducible repeat (first | apply Kd.R_alloc | apply Kd.R_drewN | apply Kd.R_drew)); exact HO_5.out⟩, ⟨by repeat (first | (with_reducible first | exact HB.out | apply below_alloc | apply pw_below_drewN | apply below_drew1) | exact HB.out)⟩⟩
          · rw [if_neg c14] at H
            exact absurd H (by simp)
        · rw [if_neg c13] at H
          have c13b0 : decide (0 < (x5_2.length : Int)) = false := decide_eq_false c13
          have c13b1 : decide (0 < x5_2.length) = false := decide_eq_false (by omega)
          clear c13
          (first | rw [c13b0] | (simp only [i64_w, i32_w]; rw [c13b0]) | skip)
          have H' := Aside0.mk H
          clear H
          go_wp2
          any_goals (try (first | exact absurd (of_decide_eq_true c13b1) (by assumption) | exact absurd (show 0 < x5_2.length by assumption) (of_decide_eq_false c13b1)))
          go_meet
          case rel => exact ⟨_, (t300), (by first | rfl | (simp; done) | (simp [*]; done)), H', ⟨by have := HJ2.out; first | omega | exact Nat.le_refl _⟩, ⟨by (with_reducible repeat (first | apply Kd.R_alloc | apply Kd.R_drewN | apply Kd.R_drew)); exact HO_5.out⟩, ⟨by repeat (first | (with_reducible first | exact HB.out | apply below_alloc | apply pw_below_drewN | apply below_drew1) | exact HB.out)⟩⟩
      case rest =>
        clear HC10
        try clear c1
        try clear c2
        try clear p2
        try clear q2
        try clear hx2
        try clear c4
        try clear c4b0
        try clear c5
        try clear c5b0
        try clear c6
        try clear c6b0
        try clear p6
        try clear c7
        try clear c9
        try clear c13
        try clear c13b0
        try clear c13b1
        try clear c14
        try clear c14b0
        try clear c14b1
        try clear c14b2
        try clear hx296_0
        try clear p2
        try clear p296
        try clear p6
        try clear q2
        try clear q296
        obtain ⟨kq, x7_9, rfl, HA, HJ9, HO_5, HB⟩ := hcut
        cases kq with
        | zero => exact absurd HA.out (by simp [endonymlaw11_PunyHands.j2])
        | succ kj9 =>
          have H := HA.out
          clear HA
          simp only [endonymlaw11_PunyHands.j2] at H
          replace H := Option.bind_eq_some_iff.mp H
          obtain ⟨⟨t303, t306, t307, t308, t309⟩, A150, H⟩ := H
          replace H : (endonymlaw11_PunyHands.l1 kj9 l1 x7_9 0 t303 t306 t307 t308 t309) = some r := H
          have A15 := Aside0.mk A150
          clear A150
          have H' := Aside0.mk H
          clear H
          go_wp2_with (first | ((with_reducible refine gate_callee (f := 23) rfl ?_); refine goesL_ (some 48) rfl rfl Try.func23 (by kernel_rfl) rfl #[.slice Ao11 x5_2.length co11] rfl (by (try simp only [List.map_toArray, List.map_cons, List.map_nil]); first | done | rfl | (simp only [List.length_drop, List.length_take]; rfl)) ?_; (with_reducible refine (endonymref11_Begin.calls (fun k_ => some k_ = (.slice Ao11 x5_2.length co11 : Value).ownBlock) (.slice Ao11 x5_2.length co11) x5_2 t303 t306 t307 t308 t309 w _ ?side1 ?side2 A15.out).mono ?_); (case side1 => repeat (first | (with_reducible first | exact HB.out | apply below_alloc | apply pw_below_drewN | apply below_drew1) | exact HB.out)); (case side2 => exact Kd.R_tight rfl HO_5.out); rintro e w16 ⟨v304, rfl, ho0, hb, hkp⟩; refine ⟨_, rfl, ?_⟩; have n0_ := Aside0.mk (Kd.R_mono (ok' := fun k_ => True) ho0 (fun k_ hk_ => trivial)); have n1_ := Aside0.mk (hb); clear HB; clear HO_5; have HO305 := n0_; have HB := n1_; clear n0_ n1_; (try clear hb); (try clear hkp); (try clear ho0)) | ((with_reducible refine gate_dst (N := 10) rfl ?_); (try (refine gate_guard (by rfl) ?_; dsimp only)); refine box_event ?hg (N := 10) ?hd (cs := #[.slice none 0 0, .int .i64 0, .int .i64 0, .int .i64 0, .bool false]) (t := 45) ?hr ?_; (case hd => rfl); (case hg => rfl); (case hr => first | (go_simp; done) | (go_simp; rfl)); intro gb310 hg w17 hbox hb; have n0_ := Aside0.mk (Kd.R_below (by (with_reducible repeat (first | apply Kd.R_alloc | apply Kd.R_drewN | apply Kd.R_drew)); exact HO305.out) hb); have n1_ := Aside0.mk (below_step (by repeat (first | (with_reducible first | exact HB.out | apply below_alloc | apply pw_below_drewN | apply below_drew1) | exact HB.out)) hb); have n2_ := Aside0.mk (hbox); have n3_ := Aside0.mk ((by rw [hg]; exact (below_size (by repeat (first | (with_reducible first | exact HB.out | apply below_alloc | apply pw_below_drewN | apply below_drew1) | exact HB.out))) : w.heap.size ≤ gb310)); have n4_ := Aside0.mk ((by rw [hg]; exact (below_size (by repeat (first | (with_reducible first | exact HB.out | apply below_alloc | apply pw_below_drewN | apply below_drew1) | exact HB.out))) : w.heap.size ≤ gb310)); clear HO305; clear HB; have HO305 := n0_; have HB := n1_; have BK310 := n2_; have GW310 := n3_; have GE310 := n4_; clear n0_ n1_ n2_ n3_ n4_; clear hb hbox hg; obtain ⟨Ao18, co18, eo18⟩ := Kd.R_slice HO305.out; subst eo18; have hcz19_0 : w17.cell? ⟨gb310, 0, none⟩ = some (.slice none 0 0) := (blk_cell BK310.out 0).trans rfl; have hcz19_1 : w17.cell? ⟨gb310, 1, none⟩ = some (.int .i64 0) := (blk_cell BK310.out 1).trans rfl; have hcz19_2 : w17.cell? ⟨gb310, 2, none⟩ = some (.int .i64 0) := (blk_cell BK310.out 2).trans rfl; have hcz19_3 : w17.cell? ⟨gb310, 3, none⟩ = some (.int .i64 0) := (blk_cell BK310.out 3).trans rfl; have hcz19_4 : w17.cell? ⟨gb310, 4, none⟩ = some (.bool false) := (blk_cell BK310.out 4).trans rfl; have hfz19_0 := blk_frozen BK310.out 0; have hfz19_1 := blk_frozen BK310.out 1; have hfz19_2 := blk_frozen BK310.out 2; have hfz19_3 := blk_frozen BK310.out 3; have hfz19_4 := blk_frozen BK310.out 4))
          go_loopg [7, 11] kj9 (fun kq v7 v11 w' => ∃ (x7_3 : ByteArray) (x11_3 : Int) (x311000_3 : List Int) (x311001_3 : Int) (x311002_3 : Int) (x311003_3 : Int) (x311004_3 : Bool) (u311000 : Value), v7 = .string x7_3 ∧ v11 = .int .i64 x11_3 ∧ Aside0 (endonymlaw11_PunyHands.l1 kq l1 x7_3 x11_3 x311000_3 x311001_3 x311002_3 x311003_3 x311004_3 = some r) ∧ Aside0 (kq ≤ kj9) ∧ Aside0 (Kd.R (Kd.int .i32) 21 w' w.heap.size (fun _ => True) u311000 x311000_3) ∧ Aside0 (w'.heap[gb310]? = some (.cells #[u311000, .int .i64 x311001_3, .int .i64 x311002_3, .int .i64 x311003_3, .bool x311004_3] 45 (0, 0))) ∧ Aside0 (Below w.heap.size w w'))
          case atStart => exact ⟨(x7_9), (0), (t303), (t306), (t307), (t308), (t309), (.slice Ao18 t303.length co18), (by first | rfl | (simp; done) | (simp [*]; done)), (by first | rfl | (simp; done) | (simp [*]; done)), H', ⟨Nat.le_refl _⟩, ⟨by (with_reducible repeat (first | apply Kd.R_alloc | apply Kd.R_drewN | apply Kd.R_drew)); exact Kd.R_mono (Kd.R_far (p := ⟨gb310, 4, none⟩) (Kd.R_far (p := ⟨gb310, 3, none⟩) (Kd.R_far (p := ⟨gb310, 2, none⟩) (Kd.R_far (p := ⟨gb310, 1, none⟩) (Kd.R_far (p := ⟨gb310, 0, none⟩) (Kd.R_types HO305.out BK310.out (by decide)) (fun _ hk => hk.2) (.slice Ao18 t303.length co18)) (fun _ hk => hk.2) (.int .i64 t306)) (fun _ hk => hk.2) (.int .i64 t307)) (fun _ hk => hk.2) (.int .i64 t308)) (fun _ hk => hk.2) (.bool t309)) (fun _ hk => trivial)⟩, ⟨by (with_reducible repeat (first | refine blk_drewN ?_ _ | refine blk_drew ?_ | refine blk_alloc ?_ _)); refine blk_put (cs := #[.slice Ao18 t303.length co18, .int .i64 t306, .int .i64 t307, .int .i64 t308, .bool false]) ?_ 4 _ rfl; (with_reducible repeat (first | refine blk_drewN ?_ _ | refine blk_drew ?_ | refine blk_alloc ?_ _)); refine blk_put (cs := #[.slice Ao18 t303.length co18, .int .i64 t306, .int .i64 t307, .int .i64 0, .bool false]) ?_ 3 _ rfl; (with_reducible repeat (first | refine blk_drewN ?_ _ | refine blk_drew ?_ | refine blk_alloc ?_ _)); refine blk_put (cs := #[.slice Ao18 t303.length co18, .int .i64 t306, .int .i64 0, .int .i64 0, .bool false]) ?_ 2 _ rfl; (with_reducible repeat (first | refine blk_drewN ?_ _ | refine blk_drew ?_ | refine blk_alloc ?_ _)); refine blk_put (cs := #[.slice Ao18 t303.length co18, .int .i64 0, .int .i64 0, .int .i64 0, .bool false]) ?_ 1 _ rfl; (with_reducible repeat (first | refine blk_drewN ?_ _ | refine blk_drew ?_ | refine blk_alloc ?_ _)); refine blk_put (cs := #[.slice none 0 0, .int .i64 0, .int .i64 0, .int .i64 0, .bool false]) ?_ 0 _ rfl; (with_reducible repeat (first | refine blk_drewN ?_ _ | refine blk_drew ?_ | refine blk_alloc ?_ _)); exact BK310.out⟩, ⟨by repeat (first | (with_reducible first | exact HB.out | apply below_alloc | apply pw_below_drewN | apply below_drew1 | refine below_set ?_ GE310.out) | exact HB.out)⟩⟩
          case round =>
            clear H'
            try clear c1
            try clear c2
            try clear p2
            try clear q2
            try clear hx2
            try clear c4
            try clear c4b0
            try clear c5
            try clear c5b0
            try clear c6
            try clear c6b0
            try clear p6
            try clear c7
            try clear c9
            try clear c13
            try clear c13b0
            try clear c13b1
            try clear c14
            try clear c14b0
            try clear c14b1
            try clear c14b2
            try clear hcz19_0
            try clear hcz19_1
            try clear hcz19_2
            try clear hcz19_3
            try clear hcz19_4
            try clear hfz19_0
            try clear hfz19_1
            try clear hfz19_2
            try clear hfz19_3
            try clear hfz19_4
            try clear hx296_0
            try clear p2
            try clear p296
            try clear p6
            try clear q2
            try clear q296
            obtain ⟨x7_3, x11_3, x311000_3, x311001_3, x311002_3, x311003_3, x311004_3, u311000, rfl, rfl, HA, HK3, HO_311000, BK310, HB⟩ := hrel
            cases gk with
            | zero => exact absurd HA.out (by simp [endonymlaw11_PunyHands.l1])
            | succ k3 =>
              have H := HA.out
              clear HA
              simp only [endonymlaw11_PunyHands.l1] at H
              have HC20 := Aside0.mk H
              clear H
              go_upto_region 11 with (fail)
              go_cut [56] (fun v56 wc => ∃ (kq : Nat) (x56_19 : Bool), v56 = .bool x56_19 ∧ Aside0 (endonymlaw11_PunyHands.j4 kq l1 x7_3 x11_3 x56_19 x311000_3 x311001_3 x311002_3 x311003_3 x311004_3 = some r) ∧ Aside0 (kq ≤ k3) ∧ Aside0 (Kd.R (Kd.int .i32) 21 wc w.heap.size (fun _ => True) u311000 x311000_3) ∧ Aside0 (wc.heap[gb310]? = some (.cells #[u311000, .int .i64 x311001_3, .int .i64 x311002_3, .int .i64 x311003_3, .bool x311004_3] 45 (0, 0))) ∧ Aside0 (Below w.heap.size w wc))
              case first =>
                have H := HC20.out
                clear HC20
                by_cases c21 : x11_3 < (l1.length : Int)
                · rw [if_pos c21] at H
                  have c21b0 : decide (x11_3 < (l1.length : Int)) = true := decide_eq_true c21
                  clear c21
                  (first | rw [c21b0] | (simp only [i64_w, i32_w]; rw [c21b0]) | skip)
                  have H' := Aside0.mk H
                  clear H
                  go_wp2
                  go_meet
                  case rel => exact ⟨_, (decide (x11_3 < 40)), (by first | rfl | (simp; done) | (simp [*]; done)), H', ⟨by have := HJ2.out; have := HJ9.out; have := HK3.out; first | omega | exact Nat.le_refl _⟩, ⟨by (with_reducible repeat (first | apply Kd.R_alloc | apply Kd.R_drewN | apply Kd.R_drew)); exact HO_311000.out⟩, ⟨by (with_reducible repeat (first | refine blk_drewN ?_ _ | refine blk_drew ?_ | refine blk_alloc ?_ _)); exact BK310.out⟩, ⟨by repeat (first | (with_reducible first | exact HB.out | apply below_alloc | apply pw_below_drewN | apply below_drew1 | refine below_set ?_ GE310.out) | exact HB.out)⟩⟩
                · rw [if_neg c21] at H
                  have c21b0 : decide (x11_3 < (l1.length : Int)) = false := decide_eq_false c21
                  clear c21
                  (first | rw [c21b0] | (simp only [i64_w, i32_w]; rw [c21b0]) | skip)
                  have H' := Aside0.mk H
                  clear H
                  go_wp2
                  go_meet
                  case rel => exact ⟨_, (false), (by first | rfl | (simp; done) | (simp [*]; done)), H', ⟨by have := HJ2.out; have := HJ9.out; have := HK3.out; first | omega | exact Nat.le_refl _⟩, ⟨by (with_reducible repeat (first | apply Kd.R_alloc | apply Kd.R_drewN | apply Kd.R_drew)); exact HO_311000.out⟩, ⟨by (with_reducible repeat (first | refine blk_drewN ?_ _ | refine blk_drew ?_ | refine blk_alloc ?_ _)); exact BK310.out⟩, ⟨by repeat (first | (with_reducible first | exact HB.out | apply below_alloc | apply pw_below_drewN | apply below_drew1 | refine below_set ?_ GE310.out) | exact HB.out)⟩⟩
              case rest =>
                clear HC20
                try clear c1
                try clear c2
                try clear p2
                try clear q2
                try clear hx2
                try clear c4
                try clear c4b0
                try clear c5
                try clear c5b0
                try clear c6
                try clear c6b0
                try clear p6
                try clear c7
                try clear c9
                try clear c13
                try clear c13b0
                try clear c13b1
                try clear c14
                try clear c14b0
                try clear c14b1
                try clear c14b2
                try clear c21
                try clear c21b0
                try clear hcz19_0
                try clear hcz19_1
                try clear hcz19_2
                try clear hcz19_3
                try clear hcz19_4
                try clear hfz19_0
                try clear hfz19_1
                try clear hfz19_2
                try clear hfz19_3
                try clear hfz19_4
                try clear hx296_0
                try clear p2
                try clear p296
                try clear p6
                try clear q2
                try clear q296
                obtain ⟨kq, x56_19, rfl, HA, HJ19, HO_311000, BK310, HB⟩ := hcut
                cases kq with
                | zero => exact absurd HA.out (by simp [endonymlaw11_PunyHands.j4])
                | succ kj19 =>
                  have H := HA.out
                  clear HA
                  simp only [endonymlaw11_PunyHands.j4] at H
                  by_cases c22 : x56_19 = true
                  · subst c22
                    have H1 : (if 0 ≤ x11_3 then (if x11_3 < (l1.length : Int) then ((endonymref11_Written.f kj19 (Go.bits .and .i64 (rd l1 x11_3) 1099511627775) x311003_3).bind fun t318 => (if x7_3.size + t318.size ≤ 9223372036854775807 then (if (Go.bits .and .i64 (rd l1 x11_3) 1099511627775) ≤ 2147483647 then ((endonymref11_Step.f x311000_3 x311001_3 x311002_3 x311003_3 x311004_3 (Go.bits .and .i64 (rd l1 x11_3) 1099511627775)).bind fun bt319 => (endonymlaw11_PunyHands.j5 kj19 l1 (x7_3 ++ t318) x11_3 (Go.bits .and .i64 (rd l1 x11_3) 1099511627775) bt319.2.2.2.2.2 bt319.1 bt319.2.1 bt319.2.2.1 bt319.2.2.2.1 bt319.2.2.2.2.1)) else (endonymlaw11_PunyHands.j5 kj19 l1 (x7_3 ++ t318) x11_3 (Go.bits .and .i64 (rd l1 x11_3) 1099511627775) (decide ((Go.bits .and .i64 (rd l1 x11_3) 1099511627775) ≤ 2147483647)) x311000_3 x311001_3 x311002_3 x311003_3 x311004_3)) else (none))) else (none)) else (none)) = some r := by rw [if_pos rfl] at H; exact H
                    clear H
                    have H := H1
                    clear H1
                    by_cases c23 : 0 ≤ x11_3
                    · rw [if_pos c23] at H
                      have c23b0 : decide (0 ≤ x11_3) = true := decide_eq_true c23
                      clear c23
                      by_cases c24 : x11_3 < (l1.length : Int)
                      · rw [if_pos c24] at H
                        have c24b0 : decide (x11_3 < (l1.length : Int)) = true := decide_eq_true c24
                        clear c24
                        replace H := Option.bind_eq_some_iff.mp H
                        obtain ⟨t318, A250, H⟩ := H
                        replace H : (if x7_3.size + t318.size ≤ 9223372036854775807 then (if (Go.bits .and .i64 (rd l1 x11_3) 1099511627775) ≤ 2147483647 then ((endonymref11_Step.f x311000_3 x311001_3 x311002_3 x311003_3 x311004_3 (Go.bits .and .i64 (rd l1 x11_3) 1099511627775)).bind fun bt319 => (endonymlaw11_PunyHands.j5 kj19 l1 (x7_3 ++ t318) x11_3 (Go.bits .and .i64 (rd l1 x11_3) 1099511627775) bt319.2.2.2.2.2 bt319.1 bt319.2.1 bt319.2.2.1 bt319.2.2.2.1 bt319.2.2.2.2.1)) else (endonymlaw11_PunyHands.j5 kj19 l1 (x7_3 ++ t318) x11_3 (Go.bits .and .i64 (rd l1 x11_3) 1099511627775) (decide ((Go.bits .and .i64 (rd l1 x11_3) 1099511627775) ≤ 2147483647)) x311000_3 x311001_3 x311002_3 x311003_3 x311004_3)) else (none)) = some r := H
                        have A25 := Aside0.mk A250
                        clear A250
                        by_cases c26 : x7_3.size + t318.size ≤ 9223372036854775807
                        · rw [if_pos c26] at H
                          have c26b0 := eq_true c26
                          have c26b1 : decide (x7_3.size + t318.size ≤ 9223372036854775807) = true := decide_eq_true c26
                          try have c26b2 : (9223372036854775807 < x7_3.size + t318.size) = False := eq_false (Nat.not_lt.2 c26)
                          have HC27 := Aside0.mk H
                          clear H
                          have p317 : 0 ≤ (x11_3 : Int) := of_decide_eq_true (by first | (with_reducible assumption) | assumption)
                          have q317 : x11_3 < (l1.length : Int) := of_decide_eq_true (by first | (with_reducible assumption) | assumption)
                          obtain ⟨ad317, e317, hx317_0⟩ := Kd.at_int HR1.out x11_3 p317 q317
                          cases e317
                          replace hx317_0 := (HB.out.cell (World.block_lt_of_cell? w _ hx317_0)).trans hx317_0
                          replace p317 := eq_true p317
                          replace q317 := eq_true q317
                          have hcz28_0 : wc.cell? ⟨gb310, 0, none⟩ = some (u311000) := (blk_cell BK310.out 0).trans rfl
                          have hcz28_1 : wc.cell? ⟨gb310, 1, none⟩ = some (.int .i64 x311001_3) := (blk_cell BK310.out 1).trans rfl
                          have hcz28_2 : wc.cell? ⟨gb310, 2, none⟩ = some (.int .i64 x311002_3) := (blk_cell BK310.out 2).trans rfl
                          have hcz28_3 : wc.cell? ⟨gb310, 3, none⟩ = some (.int .i64 x311003_3) := (blk_cell BK310.out 3).trans rfl
                          have hcz28_4 : wc.cell? ⟨gb310, 4, none⟩ = some (.bool x311004_3) := (blk_cell BK310.out 4).trans rfl
                          have hfz28_0 := blk_frozen BK310.out 0
                          have hfz28_1 := blk_frozen BK310.out 1
                          have hfz28_2 := blk_frozen BK310.out 2
                          have hfz28_3 := blk_frozen BK310.out 3
                          have hfz28_4 := blk_frozen BK310.out 4
                          go_upto_if 72 with (first | ((with_reducible refine gate_callee (f := 24) rfl ?_); refine goesL_ (some 68) rfl rfl Try.func24 (by kernel_rfl) rfl #[.int .i64 (Go.bits .and .i64 (rd l1 x11_3) 1099511627775), .int .i64 x311003_3] rfl (by (try simp only [List.map_toArray, List.map_cons, List.map_nil]); first | done | rfl | (simp only [List.length_drop, List.length_take]; rfl)) ?_; (with_reducible refine (endonymref11_Written.calls kj19 (Go.bits .and .i64 (rd l1 x11_3) 1099511627775) x311003_3 t318 _ A25.out).mono ?_); rintro e w29 ⟨rfl, hb⟩; refine ⟨_, rfl, ?_⟩; have n0_ := Aside0.mk (Kd.R_below (by (with_reducible repeat (first | apply Kd.R_alloc | apply Kd.R_drewN | apply Kd.R_drew)); exact HO_311000.out) hb); have n1_ := Aside0.mk (blk_below (g := gb310) (o := .cells #[u311000, .int .i64 x311001_3, .int .i64 x311002_3, .int .i64 x311003_3, .bool x311004_3] 45 (0, 0)) (by (with_reducible repeat (first | refine blk_drewN ?_ _ | refine blk_drew ?_ | refine blk_alloc ?_ _)); exact BK310.out) hb); have n2_ := Aside0.mk (below_step (by repeat (first | (with_reducible first | exact HB.out | apply below_alloc | apply pw_below_drewN | apply below_drew1 | refine below_set ?_ GE310.out) | exact HB.out)) hb); clear HO_311000; clear BK310; clear HB; have HO_311000 := n0_; have BK310 := n1_; have HB := n2_; clear n0_ n1_ n2_; (try clear hb); (try clear hb2); (try clear hk); (try clear hi)))
                          (try simp only [Act.put, List.setIfInBounds_toArray, List.set_cons_zero, List.set_cons_succ])
                          go_cut [13] (fun v13 wc => ∃ (kq : Nat) (x13_26 : Bool) (x311000_26 : List Int) (x311001_26 : Int) (x311002_26 : Int) (x311003_26 : Int) (x311004_26 : Bool) (u311000 : Value), v13 = .bool x13_26 ∧ Aside0 (endonymlaw11_PunyHands.j5 kq l1 (x7_3 ++ t318) x11_3 (Go.bits .and .i64 (rd l1 x11_3) 1099511627775) x13_26 x311000_26 x311001_26 x311002_26 x311003_26 x311004_26 = some r) ∧ Aside0 (kq ≤ kj19) ∧ Aside0 (Kd.R (Kd.int .i32) 21 wc w.heap.size (fun _ => True) u311000 x311000_26) ∧ Aside0 (wc.heap[gb310]? = some (.cells #[u311000, .int .i64 x311001_26, .int .i64 x311002_26, .int .i64 x311003_26, .bool x311004_26] 45 (0, 0))) ∧ Aside0 (Below w.heap.size w wc))
                          case first =>
                            have H := HC27.out
                            clear HC27
                            by_cases c30 : (Go.bits .and .i64 (rd l1 x11_3) 1099511627775) ≤ 2147483647
                            · rw [if_pos c30] at H
                              have c30b0 : decide ((Go.bits .and .i64 (rd l1 x11_3) 1099511627775) ≤ 2147483647) = true := decide_eq_true c30
                              clear c30
                              (first | rw [c30b0] | (simp only [i64_w, i32_w]; rw [c30b0]) | skip)
                              replace H := Option.bind_eq_some_iff.mp H
                              obtain ⟨⟨t319, t322, t323, t324, t325, t326⟩, A310, H⟩ := H
                              replace H : (endonymlaw11_PunyHands.j5 kj19 l1 (x7_3 ++ t318) x11_3 (Go.bits .and .i64 (rd l1 x11_3) 1099511627775) t326 t319 t322 t323 t324 t325) = some r := H
                              have A31 := Aside0.mk A310
                              clear A310
                              have H' := Aside0.mk H
                              clear H
                              have hcz32_0 : w29.cell? ⟨gb310, 0, none⟩ = some (u311000) := (blk_cell BK310.out 0).trans rfl
                              have hcz32_1 : w29.cell? ⟨gb310, 1, none⟩ = some (.int .i64 x311001_3) := (blk_cell BK310.out 1).trans rfl
                              have hcz32_2 : w29.cell? ⟨gb310, 2, none⟩ = some (.int .i64 x311002_3) := (blk_cell BK310.out 2).trans rfl
                              have hcz32_3 : w29.cell? ⟨gb310, 3, none⟩ = some (.int .i64 x311003_3) := (blk_cell BK310.out 3).trans rfl
                              have hcz32_4 : w29.cell? ⟨gb310, 4, none⟩ = some (.bool x311004_3) := (blk_cell BK310.out 4).trans rfl
                              have hfz32_0 := blk_frozen BK310.out 0
                              have hfz32_1 := blk_frozen BK310.out 1
                              have hfz32_2 := blk_frozen BK310.out 2
                              have hfz32_3 := blk_frozen BK310.out 3
                              have hfz32_4 := blk_frozen BK310.out 4
                              obtain ⟨Ao33, co33, eo33⟩ := Kd.R_slice HO_311000.out
                              subst eo33
                              go_wp2_with (first | ((with_reducible refine gate_callee (f := 25) rfl ?_); refine goesL_ (some 76) rfl rfl Try.func25 (by kernel_rfl) rfl #[.agg #[.slice Ao33 x311000_3.length co33, .int .i64 x311001_3, .int .i64 x311002_3, .int .i64 x311003_3, .bool x311004_3], .int .i64 (Go.bits .and .i64 (rd l1 x11_3) 1099511627775)] rfl (by (try simp only [List.map_toArray, List.map_cons, List.map_nil]); first | done | rfl | (simp only [List.length_drop, List.length_take]; rfl)) ?_; (with_reducible refine (endonymref11_Step.calls (fun k_ => some k_ = (.slice Ao33 x311000_3.length co33 : Value).ownBlock) (.slice Ao33 x311000_3.length co33) x311000_3 x311001_3 x311002_3 x311003_3 x311004_3 (Go.bits .and .i64 (rd l1 x11_3) 1099511627775) t319 t322 t323 t324 t325 t326 w _ ?side1 ?side2 A31.out).mono ?_); (case side1 => repeat (first | (with_reducible first | exact HB.out | apply below_alloc | apply pw_below_drewN | apply below_drew1 | refine below_set ?_ GE310.out) | exact HB.out)); (case side2 => exact Kd.R_tight rfl HO_311000.out); rintro e w34 ⟨v320, rfl, ho0, hb, hkp⟩; refine ⟨_, rfl, ?_⟩; have n0_ := Aside0.mk (blk_kept (by (with_reducible repeat (first | refine blk_drewN ?_ _ | refine blk_drew ?_ | refine blk_alloc ?_ _)); exact BK310.out) hkp (fun hs_ => (fun e_ => (Kd.R_ne HO_311000.out BK310.out (by decide)) e_) hs_)); have n1_ := Aside0.mk (Kd.R_mono (ok' := fun k_ => True) ho0 (fun k_ hk_ => trivial)); have n2_ := Aside0.mk (hb); clear BK310; clear HB; clear HO_311000; have BK310 := n0_; have HO321 := n1_; have HB := n2_; clear n0_ n1_ n2_; (try clear hb); (try clear hkp); (try clear ho0); obtain ⟨Ao35, co35, eo35⟩ := Kd.R_slice HO321.out; subst eo35; have hcz36_0 : w34.cell? ⟨gb310, 0, none⟩ = some (.slice Ao33 x311000_3.length co33) := (blk_cell BK310.out 0).trans rfl; have hcz36_1 : w34.cell? ⟨gb310, 1, none⟩ = some (.int .i64 x311001_3) := (blk_cell BK310.out 1).trans rfl; have hcz36_2 : w34.cell? ⟨gb310, 2, none⟩ = some (.int .i64 x311002_3) := (blk_cell BK310.out 2).trans rfl; have hcz36_3 : w34.cell? ⟨gb310, 3, none⟩ = some (.int .i64 x311003_3) := (blk_cell BK310.out 3).trans rfl; have hcz36_4 : w34.cell? ⟨gb310, 4, none⟩ = some (.bool x311004_3) := (blk_cell BK310.out 4).trans rfl; have hfz36_0 := blk_frozen BK310.out 0; have hfz36_1 := blk_frozen BK310.out 1; have hfz36_2 := blk_frozen BK310.out 2; have hfz36_3 := blk_frozen BK310.out 3; have hfz36_4 := blk_frozen BK310.out 4))
                              go_meet
                              case rel => exact ⟨_, (t326), (t319), (t322), (t323), (t324), (t325), (.slice Ao35 t319.length co35), (by first | rfl | (simp; done) | (simp [*]; done)), H', ⟨by have := HJ2.out; have := HJ9.out; have := HK3.out; have := HJ19.out; first | omega | exact Nat.le_refl _⟩, ⟨by (with_reducible repeat (first | apply Kd.R_alloc | apply Kd.R_drewN | apply Kd.R_drew)); exact Kd.R_mono (Kd.R_far (p := ⟨gb310, 4, none⟩) (Kd.R_far (p := ⟨gb310, 3, none⟩) (Kd.R_far (p := ⟨gb310, 2, none⟩) (Kd.R_far (p := ⟨gb310, 1, none⟩) (Kd.R_far (p := ⟨gb310, 0, none⟩) (Kd.R_types HO321.out BK310.out (by decide)) (fun _ hk => hk.2) (.slice Ao35 t319.length co35)) (fun _ hk => hk.2) (.int .i64 t322)) (fun _ hk => hk.2) (.int .i64 t323)) (fun _ hk => hk.2) (.int .i64 t324)) (fun _ hk => hk.2) (.bool t325)) (fun _ hk => trivial)⟩, ⟨by (with_reducible repeat (first | refine blk_drewN ?_ _ | refine blk_drew ?_ | refine blk_alloc ?_ _)); refine blk_put (cs := #[.slice Ao35 t319.length co35, .int .i64 t322, .int .i64 t323, .int .i64 t324, .bool x311004_3]) ?_ 4 _ rfl; (with_reducible repeat (first | refine blk_drewN ?_ _ | refine blk_drew ?_ | refine blk_alloc ?_ _)); refine blk_put (cs := #[.slice Ao35 t319.length co35, .int .i64 t322, .int .i64 t323, .int .i64 x311003_3, .bool x311004_3]) ?_ 3 _ rfl; (with_reducible repeat (first | refine blk_drewN ?_ _ | refine blk_drew ?_ | refine blk_alloc ?_ _)); refine blk_put (cs := #[.slice Ao35 t319.length co35, .int .i64 t322, .int .i64 x311002_3, .int .i64 x311003_3, .bool x311004_3]) ?_ 2 _ rfl; (with_reducible repeat (first | refine blk_drewN ?_ _ | refine blk_drew ?_ | refine blk_alloc ?_ _)); refine blk_put (cs := #[.slice Ao35 t319.length co35, .int .i64 x311001_3, .int .i64 x311002_3, .int .i64 x311003_3, .bool x311004_3]) ?_ 1 _ rfl; (with_reducible repeat (first | refine blk_drewN ?_ _ | refine blk_drew ?_ | refine blk_alloc ?_ _)); refine blk_put (cs := #[.slice Ao33 x311000_3.length co33, .int .i64 x311001_3, .int .i64 x311002_3, .int .i64 x311003_3, .bool x311004_3]) ?_ 0 _ rfl; (with_reducible repeat (first | refine blk_drewN ?_ _ | refine blk_drew ?_ | refine blk_alloc ?_ _)); exact BK310.out⟩, ⟨by repeat (first | (with_reducible first | exact HB.out | apply below_alloc | apply pw_below_drewN | apply below_drew1 | refine below_set ?_ GE310.out) | exact HB.out)⟩⟩
                            · rw [if_neg c30] at H
                              have c30b0 : decide ((Go.bits .and .i64 (rd l1 x11_3) 1099511627775) ≤ 2147483647) = false := decide_eq_false c30
                              clear c30
                              (first | rw [c30b0] | (simp only [i64_w, i32_w]; rw [c30b0]) | skip)
                              have H' := Aside0.mk H
                              clear H
                              go_wp2
                              go_meet
                              case rel => exact ⟨_, (decide ((Go.bits .and .i64 (rd l1 x11_3) 1099511627775) ≤ 2147483647)), (x311000_3), (x311001_3), (x311002_3), (x311003_3), (x311004_3), (u311000), (by first | rfl | (simp; done) | (simp [*]; done)), H', ⟨by have := HJ2.out; have := HJ9.out; have := HK3.out; have := HJ19.out; first | omega | exact Nat.le_refl _⟩, ⟨by (with_reducible repeat (first | apply Kd.R_alloc | apply Kd.R_drewN | apply Kd.R_drew)); exact HO_311000.out⟩, ⟨by (with_reducible repeat (first | refine blk_drewN ?_ _ | refine blk_drew ?_ | refine blk_alloc ?_ _)); exact BK310.out⟩, ⟨by repeat (first | (with_reducible first | exact HB.out | apply below_alloc | apply pw_below_drewN | apply below_drew1 | refine below_set ?_ GE310.out) | exact HB.out)⟩⟩
                          case rest =>
                            clear HC27
                            try clear c1
                            try clear c2
                            try clear p2
                            try clear q2
                            try clear hx2
                            try clear c3
                            try clear p3
                            try clear q3
                            try clear hx3
                            try clear c4
                            try clear c4b0
                            try clear c5
                            try clear c5b0
                            try clear c6
                            try clear c6b0
                            try clear p6
                            try clear c7
                            try clear c9
                            try clear c13
                            try clear c13b0
                            try clear c13b1
                            try clear c14
                            try clear c14b0
                            try clear c14b1
                            try clear c14b2
                            try clear c21
                            try clear c21b0
                            try clear c22
                            try clear c23
                            try clear c23b0
                            try clear c24
                            try clear c24b0
                            try clear c25
                            try clear c26
                            try clear c26b0
                            try clear c26b1
                            try clear c26b2
                            try clear p29
                            try clear q29
                            try clear hx29
                            try clear c30
                            try clear c30b0
                            try clear p31
                            try clear q31
                            try clear hx31
                            try clear hcz19_0
                            try clear hcz19_1
                            try clear hcz19_2
                            try clear hcz19_3
                            try clear hcz19_4
                            try clear hcz28_0
                            try clear hcz28_1
                            try clear hcz28_2
                            try clear hcz28_3
                            try clear hcz28_4
                            try clear hcz32_0
                            try clear hcz32_1
                            try clear hcz32_2
                            try clear hcz32_3
                            try clear hcz32_4
                            try clear hcz36_0
                            try clear hcz36_1
                            try clear hcz36_2
                            try clear hcz36_3
                            try clear hcz36_4
                            try clear hfz19_0
                            try clear hfz19_1
                            try clear hfz19_2
                            try clear hfz19_3
                            try clear hfz19_4
                            try clear hfz28_0
                            try clear hfz28_1
                            try clear hfz28_2
                            try clear hfz28_3
                            try clear hfz28_4
                            try clear hfz32_0
                            try clear hfz32_1
                            try clear hfz32_2
                            try clear hfz32_3
                            try clear hfz32_4
                            try clear hfz36_0
                            try clear hfz36_1
                            try clear hfz36_2
                            try clear hfz36_3
                            try clear hfz36_4
                            try clear hx296_0
                            try clear hx317_0
                            try clear p2
                            try clear p296
                            try clear p317
                            try clear p6
                            try clear q2
                            try clear q296
                            try clear q317
                            obtain ⟨kq, x13_26, x311000_26, x311001_26, x311002_26, x311003_26, x311004_26, u311000, rfl, HA, HJ26, HO_311000, BK310, HB⟩ := hcut
                            cases kq with
                            | zero => exact absurd HA.out (by simp [endonymlaw11_PunyHands.j5])
                            | succ kj26 =>
                              have H := HA.out
                              clear HA
                              simp only [endonymlaw11_PunyHands.j5] at H
                              by_cases c37 : x13_26 = true
                              · subst c37
                                have H1 : (endonymlaw11_PunyHands.l1 kj26 l1 (x7_3 ++ t318) (wrap64 (x11_3 + 1)) x311000_26 x311001_26 x311002_26 x311003_26 x311004_26) = some r := by rw [if_pos rfl] at H; exact H
                                clear H
                                have H := H1
                                clear H1
                                have H' := Aside0.mk H
                                clear H
                                go_wp2
                                go_roundg kj26
                                case measure => have := HJ2.out; have := HJ9.out; have := HK3.out; have := HJ19.out; have := HJ26.out; omega
                                case rel => exact ⟨((x7_3 ++ t318)), (wrap64 (x11_3 + 1)), (x311000_26), (x311001_26), (x311002_26), (x311003_26), (x311004_26), (u311000), (by first | rfl | (simp; done) | (simp [*]; done)), (by first | rfl | (simp; done) | (simp [*]; done)), H', ⟨by have := HJ2.out; have := HJ9.out; have := HK3.out; have := HJ19.out; have := HJ26.out; omega⟩, ⟨by (with_reducible repeat (first | apply Kd.R_alloc | apply Kd.R_drewN | apply Kd.R_drew)); exact HO_311000.out⟩, ⟨by (with_reducible repeat (first | refine blk_drewN ?_ _ | refine blk_drew ?_ | refine blk_alloc ?_ _)); exact BK310.out⟩, ⟨by repeat (first | (with_reducible first | exact HB.out | apply below_alloc | apply pw_below_drewN | apply below_drew1 | refine below_set ?_ GE310.out) | exact HB.out)⟩⟩
                              · replace c37 := Bool.eq_false_iff.mpr c37
                                subst c37
                                have H1 : ((puny_Decode.f kj26 (x7_3 ++ t318)).bind fun bt327 => ((endonymlaw11_told.f kj26).bind fun t331 => (if t331 = true then (if (bt327.1.length : Int) = 0 then (if ((bt327.2 == 113) == (decide ((Go.bits .and .i64 (rd l1 x11_3) 1099511627775) > 2147483647))) = true then (some ((bt327.2 == 31) == (decide ((Go.bits .and .i64 (rd l1 x11_3) 1099511627775) ≤ 2147483647)))) else (some false)) else (some false)) else (some false)))) = some r := by rw [if_neg (show ¬ (false = true) by decide)] at H; exact H
                                clear H
                                have H := H1
                                clear H1
                                replace H := Option.bind_eq_some_iff.mp H
                                obtain ⟨⟨t327, t328⟩, A380, H⟩ := H
                                replace H : ((endonymlaw11_told.f kj26).bind fun t331 => (if t331 = true then (if (t327.length : Int) = 0 then (if ((t328 == 113) == (decide ((Go.bits .and .i64 (rd l1 x11_3) 1099511627775) > 2147483647))) = true then (some ((t328 == 31) == (decide ((Go.bits .and .i64 (rd l1 x11_3) 1099511627775) ≤ 2147483647)))) else (some false)) else (some false)) else (some false))) = some r := H
                                have A38 := Aside0.mk A380
                                clear A380
                                replace H := Option.bind_eq_some_iff.mp H
                                obtain ⟨t331, A390, H⟩ := H
                                replace H : (if t331 = true then (if (t327.length : Int) = 0 then (if ((t328 == 113) == (decide ((Go.bits .and .i64 (rd l1 x11_3) 1099511627775) > 2147483647))) = true then (some ((t328 == 31) == (decide ((Go.bits .and .i64 (rd l1 x11_3) 1099511627775) ≤ 2147483647)))) else (some false)) else (some false)) else (some false)) = some r := H
                                have A39 := Aside0.mk A390
                                clear A390
                                by_cases c40 : t331 = true
                                · subst c40
                                  have H1 : (if (t327.length : Int) = 0 then (if ((t328 == 113) == (decide ((Go.bits .and .i64 (rd l1 x11_3) 1099511627775) > 2147483647))) = true then (some ((t328 == 31) == (decide ((Go.bits .and .i64 (rd l1 x11_3) 1099511627775) ≤ 2147483647)))) else (some false)) else (some false)) = some r := by rw [if_pos rfl] at H; exact H
                                  clear H
                                  have H := H1
                                  clear H1
                                  by_cases c41 : (t327.length : Int) = 0
                                  · rw [if_pos c41] at H
                                    have c41b0 : ((t327.length : Int) == 0) = true := beq_iff_eq.mpr c41
                                    have c41b1 : ((t327.length : Int) != 0) = false := bne_eq_false_iff_eq.mpr c41
                                    clear c41
                                    by_cases c42 : ((t328 == 113) == (decide ((Go.bits .and .i64 (rd l1 x11_3) 1099511627775) > 2147483647))) = true
                                    · rw [if_pos c42] at H
                                      have c42b0 : ((t328 == 113) == (decide ((Go.bits .and .i64 (rd l1 x11_3) 1099511627775) > 2147483647))) = true := c42
                                      (try (have c42b1 : decide ((t328 == 113) = (decide ((Go.bits .and .i64 (rd l1 x11_3) 1099511627775) > 2147483647))) = true := by simpa using c42))
                                      (try (have c42b2 : ((t328 == 113) == (decide ((Go.bits .and .i64 (rd l1 x11_3) 1099511627775) > 2147483647))) = true := by simpa using c42))
                                      clear c42
                                      obtain rfl := Option.some.inj H
                                      go_wp2_with (first | ((with_reducible refine gate_callee (f := 15) rfl ?_); refine goesL_ (some 83) rfl rfl Try.func15 (by kernel_rfl) rfl #[.string (x7_3 ++ t318)] rfl (by (try simp only [List.map_toArray, List.map_cons, List.map_nil]); first | done | rfl | (simp only [List.length_drop, List.length_take]; rfl)) ?_; (with_reducible refine (puny_Decode.calls kj26 (x7_3 ++ t318) t327 t328 _ A38.out).mono ?_); rintro e w43 ⟨v329, rfl, ho0, hb⟩; refine ⟨_, rfl, ?_⟩; have n0_ := Aside0.mk (Kd.R_elder' (by (with_reducible repeat (first | apply Kd.R_alloc | apply Kd.R_drewN | apply Kd.R_drew)); exact HO_311000.out) (Kd.R_base ho0) hb); have n1_ := Aside0.mk (Kd.R_lower (Kd.R_new' ho0 (Kd.R_lt (by (with_reducible repeat (first | apply Kd.R_alloc | apply Kd.R_drewN | apply Kd.R_drew)); exact HO_311000.out))) (below_size (by repeat (first | (with_reducible first | exact HB.out | apply below_alloc | apply pw_below_drewN | apply below_drew1 | refine below_set ?_ GE310.out) | exact HB.out)))); have n2_ := Aside0.mk (blk_below (g := gb310) (o := .cells #[u311000, .int .i64 x311001_26, .int .i64 x311002_26, .int .i64 x311003_26, .bool x311004_26] 45 (0, 0)) (by (with_reducible repeat (first | refine blk_drewN ?_ _ | refine blk_drew ?_ | refine blk_alloc ?_ _)); exact BK310.out) hb); have n3_ := Aside0.mk (below_step (by repeat (first | (with_reducible first | exact HB.out | apply below_alloc | apply pw_below_drewN | apply below_drew1 | refine below_set ?_ GE310.out) | exact HB.out)) hb); clear HO_311000; clear BK310; clear HB; have HO_311000 := n0_; have HO330 := n1_; have BK310 := n2_; have HB := n3_; clear n0_ n1_ n2_ n3_; (try clear hb); (try clear hb2); (try clear hk); (try clear hi); (try clear ho0)) | ((with_reducible refine gate_callee (f := 13) rfl ?_); refine goesL_ (some 86) rfl rfl Try.func13 (by kernel_rfl) rfl #[] rfl (by (try simp only [List.map_toArray, List.map_cons, List.map_nil]); first | done | rfl | (simp only [List.length_drop, List.length_take]; rfl)) ?_; (with_reducible refine (endonymlaw11_told.calls kj26  true _ A39.out).mono ?_); rintro e w44 ⟨rfl, hb⟩; refine ⟨_, rfl, ?_⟩; have n0_ := Aside0.mk (Kd.R_below (by (with_reducible repeat (first | apply Kd.R_alloc | apply Kd.R_drewN | apply Kd.R_drew)); exact HO_311000.out) hb); have n1_ := Aside0.mk (Kd.R_below (by (with_reducible repeat (first | apply Kd.R_alloc | apply Kd.R_drewN | apply Kd.R_drew)); exact HO330.out) hb); have n2_ := Aside0.mk (blk_below (g := gb310) (o := .cells #[u311000, .int .i64 x311001_26, .int .i64 x311002_26, .int .i64 x311003_26, .bool x311004_26] 45 (0, 0)) (by (with_reducible repeat (first | refine blk_drewN ?_ _ | refine blk_drew ?_ | refine blk_alloc ?_ _)); exact BK310.out) hb); have n3_ := Aside0.mk (below_step (by repeat (first | (with_reducible first | exact HB.out | apply below_alloc | apply pw_below_drewN | apply below_drew1 | refine below_set ?_ GE310.out) | exact HB.out)) hb); clear HO_311000; clear HO330; clear BK310; clear HB; have HO_311000 := n0_; have HO330 := n1_; have BK310 := n2_; have HB := n3_; clear n0_ n1_ n2_ n3_; (try clear hb); (try clear hb2); (try clear hk); (try clear hi); obtain ⟨Ao45, co45, eo45⟩ := Kd.R_slice HO330.out; subst eo45))
                                      go_ret
                                      exact ⟨by first | rfl | (simp [errW_none, errW_some] <;> rfl) | (simp [*, errW_none, errW_some] <;> rfl), by repeat (first | (with_reducible first | exact HB.out | apply below_alloc | apply pw_below_drewN | apply below_drew1 | refine below_set ?_ GE310.out) | exact HB.out)⟩
                                    · rw [if_neg c42] at H
                                      have c42b0 : ((t328 == 113) == (decide ((Go.bits .and .i64 (rd l1 x11_3) 1099511627775) > 2147483647))) = false := by simpa using c42
                                      (try (have c42b1 : decide ((t328 == 113) = (decide ((Go.bits .and .i64 (rd l1 x11_3) 1099511627775) > 2147483647))) = false := by simpa using c42))
                                      (try (have c42b2 : ((t328 == 113) == (decide ((Go.bits .and .i64 (rd l1 x11_3) 1099511627775) > 2147483647))) = false := by simpa using c42))
                                      (try (have c42b3 : ¬ ((t328 == 113) = (decide ((Go.bits .and .i64 (rd l1 x11_3) 1099511627775) > 2147483647))) := by simpa using c42))
                                      clear c42
                                      obtain rfl := Option.some.inj H
                                      go_wp2_with (first | ((with_reducible refine gate_callee (f := 15) rfl ?_); refine goesL_ (some 83) rfl rfl Try.func15 (by kernel_rfl) rfl #[.string (x7_3 ++ t318)] rfl (by (try simp only [List.map_toArray, List.map_cons, List.map_nil]); first | done | rfl | (simp only [List.length_drop, List.length_take]; rfl)) ?_; (with_reducible refine (puny_Decode.calls kj26 (x7_3 ++ t318) t327 t328 _ A38.out).mono ?_); rintro e w46 ⟨v329, rfl, ho0, hb⟩; refine ⟨_, rfl, ?_⟩; have n0_ := Aside0.mk (Kd.R_elder' (by (with_reducible repeat (first | apply Kd.R_alloc | apply Kd.R_drewN | apply Kd.R_drew)); exact HO_311000.out) (Kd.R_base ho0) hb); have n1_ := Aside0.mk (Kd.R_lower (Kd.R_new' ho0 (Kd.R_lt (by (with_reducible repeat (first | apply Kd.R_alloc | apply Kd.R_drewN | apply Kd.R_drew)); exact HO_311000.out))) (below_size (by repeat (first | (with_reducible first | exact HB.out | apply below_alloc | apply pw_below_drewN | apply below_drew1 | refine below_set ?_ GE310.out) | exact HB.out)))); have n2_ := Aside0.mk (blk_below (g := gb310) (o := .cells #[u311000, .int .i64 x311001_26, .int .i64 x311002_26, .int .i64 x311003_26, .bool x311004_26] 45 (0, 0)) (by (with_reducible repeat (first | refine blk_drewN ?_ _ | refine blk_drew ?_ | refine blk_alloc ?_ _)); exact BK310.out) hb); have n3_ := Aside0.mk (below_step (by repeat (first | (with_reducible first | exact HB.out | apply below_alloc | apply pw_below_drewN | apply below_drew1 | refine below_set ?_ GE310.out) | exact HB.out)) hb); clear HO_311000; clear BK310; clear HB; have HO_311000 := n0_; have HO330 := n1_; have BK310 := n2_; have HB := n3_; clear n0_ n1_ n2_ n3_; (try clear hb); (try clear hb2); (try clear hk); (try clear hi); (try clear ho0)) | ((with_reducible refine gate_callee (f := 13) rfl ?_); refine goesL_ (some 86) rfl rfl Try.func13 (by kernel_rfl) rfl #[] rfl (by (try simp only [List.map_toArray, List.map_cons, List.map_nil]); first | done | rfl | (simp only [List.length_drop, List.length_take]; rfl)) ?_; (with_reducible refine (endonymlaw11_told.calls kj26  true _ A39.out).mono ?_); rintro e w47 ⟨rfl, hb⟩; refine ⟨_, rfl, ?_⟩; have n0_ := Aside0.mk (Kd.R_below (by (with_reducible repeat (first | apply Kd.R_alloc | apply Kd.R_drewN | apply Kd.R_drew)); exact HO_311000.out) hb); have n1_ := Aside0.mk (Kd.R_below (by (with_reducible repeat (first | apply Kd.R_alloc | apply Kd.R_drewN | apply Kd.R_drew)); exact HO330.out) hb); have n2_ := Aside0.mk (blk_below (g := gb310) (o := .cells #[u311000, .int .i64 x311001_26, .int .i64 x311002_26, .int .i64 x311003_26, .bool x311004_26] 45 (0, 0)) (by (with_reducible repeat (first | refine blk_drewN ?_ _ | refine blk_drew ?_ | refine blk_alloc ?_ _)); exact BK310.out) hb); have n3_ := Aside0.mk (below_step (by repeat (first | (with_reducible first | exact HB.out | apply below_alloc | apply pw_below_drewN | apply below_drew1 | refine below_set ?_ GE310.out) | exact HB.out)) hb); clear HO_311000; clear HO330; clear BK310; clear HB; have HO_311000 := n0_; have HO330 := n1_; have BK310 := n2_; have HB := n3_; clear n0_ n1_ n2_ n3_; (try clear hb); (try clear hb2); (try clear hk); (try clear hi); obtain ⟨Ao48, co48, eo48⟩ := Kd.R_slice HO330.out; subst eo48))
                                      go_ret
                                      exact ⟨by first | rfl | (simp [errW_none, errW_some] <;> rfl) | (simp [*, errW_none, errW_some] <;> rfl), by repeat (first | (with_reducible first | exact HB.out | apply below_alloc | apply pw_below_drewN | apply below_drew1 | refine below_set ?_ GE310.out) | exact HB.out)⟩
                                  · rw [if_neg c41] at H
                                    have c41b0 : ((t327.length : Int) == 0) = false := beq_eq_false_iff_ne.mpr c41
                                    have c41b1 : ((t327.length : Int) != 0) = true := bne_iff_ne.mpr c41
                                    have c41b2 : ¬ (t327 = []) := fun h_ => c41 (by rw [h_]; rfl)
                                    obtain rfl := Option.some.inj H
                                    go_wp2_with (first | ((with_reducible refine gate_callee (f := 15) rfl ?_); refine goesL_ (some 83) rfl rfl Try.func15 (by kernel_rfl) rfl #[.string (x7_3 ++ t318)] rfl (by (try simp only [List.map_toArray, List.map_cons, List.map_nil]); first | done | rfl | (simp only [List.length_drop, List.length_take]; rfl)) ?_; (with_reducible refine (puny_Decode.calls kj26 (x7_3 ++ t318) t327 t328 _ A38.out).mono ?_); rintro e w49 ⟨v329, rfl, ho0, hb⟩; refine ⟨_, rfl, ?_⟩; have n0_ := Aside0.mk (Kd.R_elder' (by (with_reducible repeat (first | apply Kd.R_alloc | apply Kd.R_drewN | apply Kd.R_drew)); exact HO_311000.out) (Kd.R_base ho0) hb); have n1_ := Aside0.mk (Kd.R_lower (Kd.R_new' ho0 (Kd.R_lt (by (with_reducible repeat (first | apply Kd.R_alloc | apply Kd.R_drewN | apply Kd.R_drew)); exact HO_311000.out))) (below_size (by repeat (first | (with_reducible first | exact HB.out | apply below_alloc | apply pw_below_drewN | apply below_drew1 | refine below_set ?_ GE310.out) | exact HB.out)))); have n2_ := Aside0.mk (blk_below (g := gb310) (o := .cells #[u311000, .int .i64 x311001_26, .int .i64 x311002_26, .int .i64 x311003_26, .bool x311004_26] 45 (0, 0)) (by (with_reducible repeat (first | refine blk_drewN ?_ _ | refine blk_drew ?_ | refine blk_alloc ?_ _)); exact BK310.out) hb); have n3_ := Aside0.mk (below_step (by repeat (first | (with_reducible first | exact HB.out | apply below_alloc | apply pw_below_drewN | apply below_drew1 | refine below_set ?_ GE310.out) | exact HB.out)) hb); clear HO_311000; clear BK310; clear HB; have HO_311000 := n0_; have HO330 := n1_; have BK310 := n2_; have HB := n3_; clear n0_ n1_ n2_ n3_; (try clear hb); (try clear hb2); (try clear hk); (try clear hi); (try clear ho0)) | ((with_reducible refine gate_callee (f := 13) rfl ?_); refine goesL_ (some 86) rfl rfl Try.func13 (by kernel_rfl) rfl #[] rfl (by (try simp only [List.map_toArray, List.map_cons, List.map_nil]); first | done | rfl | (simp only [List.length_drop, List.length_take]; rfl)) ?_; (with_reducible refine (endonymlaw11_told.calls kj26  true _ A39.out).mono ?_); rintro e w50 ⟨rfl, hb⟩; refine ⟨_, rfl, ?_⟩; have n0_ := Aside0.mk (Kd.R_below (by (with_reducible repeat (first | apply Kd.R_alloc | apply Kd.R_drewN | apply Kd.R_drew)); exact HO_311000.out) hb); have n1_ := Aside0.mk (Kd.R_below (by (with_reducible repeat (first | apply Kd.R_alloc | apply Kd.R_drewN | apply Kd.R_drew)); exact HO330.out) hb); have n2_ := Aside0.mk (blk_below (g := gb310) (o := .cells #[u311000, .int .i64 x311001_26, .int .i64 x311002_26, .int .i64 x311003_26, .bool x311004_26] 45 (0, 0)) (by (with_reducible repeat (first | refine blk_drewN ?_ _ | refine blk_drew ?_ | refine blk_alloc ?_ _)); exact BK310.out) hb); have n3_ := Aside0.mk (below_step (by repeat (first | (with_reducible first | exact HB.out | apply below_alloc | apply pw_below_drewN | apply below_drew1 | refine below_set ?_ GE310.out) | exact HB.out)) hb); clear HO_311000; clear HO330; clear BK310; clear HB; have HO_311000 := n0_; have HO330 := n1_; have BK310 := n2_; have HB := n3_; clear n0_ n1_ n2_ n3_; (try clear hb); (try clear hb2); (try clear hk); (try clear hi); obtain ⟨Ao51, co51, eo51⟩ := Kd.R_slice HO330.out; subst eo51))
                                    go_ret
                                    exact ⟨by first | rfl | (simp [errW_none, errW_some] <;> rfl) | (simp [*, errW_none, errW_some] <;> rfl), by repeat (first | (with_reducible first | exact HB.out | apply below_alloc | apply pw_below_drewN | apply below_drew1 | refine below_set ?_ GE310.out) | exact HB.out)⟩
                                · replace c40 := Bool.eq_false_iff.mpr c40
                                  subst c40
                                  have H1 : (some false) = some r := by rw [if_neg (show ¬ (false = true) by decide)] at H; exact H
                                  clear H
                                  have H := H1
                                  clear H1
                                  obtain rfl := Option.some.inj H
                                  go_wp2_with (first | ((with_reducible refine gate_callee (f := 15) rfl ?_); refine goesL_ (some 83) rfl rfl Try.func15 (by kernel_rfl) rfl #[.string (x7_3 ++ t318)] rfl (by (try simp only [List.map_toArray, List.map_cons, List.map_nil]); first | done | rfl | (simp only [List.length_drop, List.length_take]; rfl)) ?_; (with_reducible refine (puny_Decode.calls kj26 (x7_3 ++ t318) t327 t328 _ A38.out).mono ?_); rintro e w52 ⟨v329, rfl, ho0, hb⟩; refine ⟨_, rfl, ?_⟩; have n0_ := Aside0.mk (Kd.R_elder' (by (with_reducible repeat (first | apply Kd.R_alloc | apply Kd.R_drewN | apply Kd.R_drew)); exact HO_311000.out) (Kd.R_base ho0) hb); have n1_ := Aside0.mk (Kd.R_lower (Kd.R_new' ho0 (Kd.R_lt (by (with_reducible repeat (first | apply Kd.R_alloc | apply Kd.R_drewN | apply Kd.R_drew)); exact HO_311000.out))) (below_size (by repeat (first | (with_reducible first | exact HB.out | apply below_alloc | apply pw_below_drewN | apply below_drew1 | refine below_set ?_ GE310.out) | exact HB.out)))); have n2_ := Aside0.mk (blk_below (g := gb310) (o := .cells #[u311000, .int .i64 x311001_26, .int .i64 x311002_26, .int .i64 x311003_26, .bool x311004_26] 45 (0, 0)) (by (with_reducible repeat (first | refine blk_drewN ?_ _ | refine blk_drew ?_ | refine blk_alloc ?_ _)); exact BK310.out) hb); have n3_ := Aside0.mk (below_step (by repeat (first | (with_reducible first | exact HB.out | apply below_alloc | apply pw_below_drewN | apply below_drew1 | refine below_set ?_ GE310.out) | exact HB.out)) hb); clear HO_311000; clear BK310; clear HB; have HO_311000 := n0_; have HO330 := n1_; have BK310 := n2_; have HB := n3_; clear n0_ n1_ n2_ n3_; (try clear hb); (try clear hb2); (try clear hk); (try clear hi); (try clear ho0)) | ((with_reducible refine gate_callee (f := 13) rfl ?_); refine goesL_ (some 86) rfl rfl Try.func13 (by kernel_rfl) rfl #[] rfl (by (try simp only [List.map_toArray, List.map_cons, List.map_nil]); first | done | rfl | (simp only [List.length_drop, List.length_take]; rfl)) ?_; (with_reducible refine (endonymlaw11_told.calls kj26  false _ A39.out).mono ?_); rintro e w53 ⟨rfl, hb⟩; refine ⟨_, rfl, ?_⟩; have n0_ := Aside0.mk (Kd.R_below (by (with_reducible repeat (first | apply Kd.R_alloc | apply Kd.R_drewN | apply Kd.R_drew)); exact HO_311000.out) hb); have n1_ := Aside0.mk (Kd.R_below (by (with_reducible repeat (first | apply Kd.R_alloc | apply Kd.R_drewN | apply Kd.R_drew)); exact HO330.out) hb); have n2_ := Aside0.mk (blk_below (g := gb310) (o := .cells #[u311000, .int .i64 x311001_26, .int .i64 x311002_26, .int .i64 x311003_26, .bool x311004_26] 45 (0, 0)) (by (with_reducible repeat (first | refine blk_drewN ?_ _ | refine blk_drew ?_ | refine blk_alloc ?_ _)); exact BK310.out) hb); have n3_ := Aside0.mk (below_step (by repeat (first | (with_reducible first | exact HB.out | apply below_alloc | apply pw_below_drewN | apply below_drew1 | refine below_set ?_ GE310.out) | exact HB.out)) hb); clear HO_311000; clear HO330; clear BK310; clear HB; have HO_311000 := n0_; have HO330 := n1_; have BK310 := n2_; have HB := n3_; clear n0_ n1_ n2_ n3_; (try clear hb); (try clear hb2); (try clear hk); (try clear hi)))
                                  go_ret
                                  exact ⟨by first | rfl | (simp [errW_none, errW_some] <;> rfl) | (simp [*, errW_none, errW_some] <;> rfl), by repeat (first | (with_reducible first | exact HB.out | apply below_alloc | apply pw_below_drewN | apply below_drew1 | refine below_set ?_ GE310.out) | exact HB.out)⟩
                        · rw [if_neg c26] at H
                          exact absurd H (by simp)
                      · rw [if_neg c24] at H
                        exact absurd H (by simp)
                    · rw [if_neg c23] at H
                      exact absurd H (by simp)
                  · replace c22 := Bool.eq_false_iff.mpr c22
                    subst c22
                    have H1 : ((puny_Decode.f kj19 x7_3).bind fun bt311 => ((endonymlaw11_told.f kj19).bind fun t315 => (if t315 = true then (if bt311.2 = 0 then ((endonymref3_Same.f kj19 bt311.1 x311000_3).bind fun t316 => (some t316)) else (some false)) else (some false)))) = some r := by rw [if_neg (show ¬ (false = true) by decide)] at H; exact H
                    clear H
                    have H := H1
                    clear H1
                    replace H := Option.bind_eq_some_iff.mp H
                    obtain ⟨⟨t311, t312⟩, A540, H⟩ := H
                    replace H : ((endonymlaw11_told.f kj19).bind fun t315 => (if t315 = true then (if t312 = 0 then ((endonymref3_Same.f kj19 t311 x311000_3).bind fun t316 => (some t316)) else (some false)) else (some false))) = some r := H
                    have A54 := Aside0.mk A540
                    clear A540
                    replace H := Option.bind_eq_some_iff.mp H
                    obtain ⟨t315, A550, H⟩ := H
                    replace H : (if t315 = true then (if t312 = 0 then ((endonymref3_Same.f kj19 t311 x311000_3).bind fun t316 => (some t316)) else (some false)) else (some false)) = some r := H
                    have A55 := Aside0.mk A550
                    clear A550
                    by_cases c56 : t315 = true
                    · subst c56
                      have H1 : (if t312 = 0 then ((endonymref3_Same.f kj19 t311 x311000_3).bind fun t316 => (some t316)) else (some false)) = some r := by rw [if_pos rfl] at H; exact H
                      clear H
                      have H := H1
                      clear H1
                      by_cases c57 : t312 = 0
                      · rw [if_pos c57] at H
                        have c57b0 : (t312 == 0) = true := beq_iff_eq.mpr c57
                        have c57b1 : (t312 != 0) = false := bne_eq_false_iff_eq.mpr c57
                        clear c57
                        replace H := Option.bind_eq_some_iff.mp H
                        obtain ⟨t316, A580, H⟩ := H
                        replace H : (some t316) = some r := H
                        have A58 := Aside0.mk A580
                        clear A580
                        obtain rfl := Option.some.inj H
                        go_wp2_with (first | ((with_reducible refine gate_callee (f := 15) rfl ?_); refine goesL_ (some 108) rfl rfl Try.func15 (by kernel_rfl) rfl #[.string x7_3] rfl (by (try simp only [List.map_toArray, List.map_cons, List.map_nil]); first | done | rfl | (simp only [List.length_drop, List.length_take]; rfl)) ?_; (with_reducible refine (puny_Decode.calls kj19 x7_3 t311 t312 _ A54.out).mono ?_); rintro e w59 ⟨v313, rfl, ho0, hb⟩; refine ⟨_, rfl, ?_⟩; have n0_ := Aside0.mk (Kd.R_elder' (by (with_reducible repeat (first | apply Kd.R_alloc | apply Kd.R_drewN | apply Kd.R_drew)); exact HO_311000.out) (Kd.R_base ho0) hb); have n1_ := Aside0.mk (Kd.R_lower (Kd.R_new' ho0 (Kd.R_lt (by (with_reducible repeat (first | apply Kd.R_alloc | apply Kd.R_drewN | apply Kd.R_drew)); exact HO_311000.out))) (below_size (by repeat (first | (with_reducible first | exact HB.out | apply below_alloc | apply pw_below_drewN | apply below_drew1 | refine below_set ?_ GE310.out) | exact HB.out)))); have n2_ := Aside0.mk (blk_below (g := gb310) (o := .cells #[u311000, .int .i64 x311001_3, .int .i64 x311002_3, .int .i64 x311003_3, .bool x311004_3] 45 (0, 0)) (by (with_reducible repeat (first | refine blk_drewN ?_ _ | refine blk_drew ?_ | refine blk_alloc ?_ _)); exact BK310.out) hb); have n3_ := Aside0.mk (below_step (by repeat (first | (with_reducible first | exact HB.out | apply below_alloc | apply pw_below_drewN | apply below_drew1 | refine below_set ?_ GE310.out) | exact HB.out)) hb); clear HO_311000; clear BK310; clear HB; have HO_311000 := n0_; have HO314 := n1_; have BK310 := n2_; have HB := n3_; clear n0_ n1_ n2_ n3_; (try clear hb); (try clear hb2); (try clear hk); (try clear hi); (try clear ho0)) | ((with_reducible refine gate_callee (f := 13) rfl ?_); refine goesL_ (some 111) rfl rfl Try.func13 (by kernel_rfl) rfl #[] rfl (by (try simp only [List.map_toArray, List.map_cons, List.map_nil]); first | done | rfl | (simp only [List.length_drop, List.length_take]; rfl)) ?_; (with_reducible refine (endonymlaw11_told.calls kj19  true _ A55.out).mono ?_); rintro e w60 ⟨rfl, hb⟩; refine ⟨_, rfl, ?_⟩; have n0_ := Aside0.mk (Kd.R_below (by (with_reducible repeat (first | apply Kd.R_alloc | apply Kd.R_drewN | apply Kd.R_drew)); exact HO_311000.out) hb); have n1_ := Aside0.mk (Kd.R_below (by (with_reducible repeat (first | apply Kd.R_alloc | apply Kd.R_drewN | apply Kd.R_drew)); exact HO314.out) hb); have n2_ := Aside0.mk (blk_below (g := gb310) (o := .cells #[u311000, .int .i64 x311001_3, .int .i64 x311002_3, .int .i64 x311003_3, .bool x311004_3] 45 (0, 0)) (by (with_reducible repeat (first | refine blk_drewN ?_ _ | refine blk_drew ?_ | refine blk_alloc ?_ _)); exact BK310.out) hb); have n3_ := Aside0.mk (below_step (by repeat (first | (with_reducible first | exact HB.out | apply below_alloc | apply pw_below_drewN | apply below_drew1 | refine below_set ?_ GE310.out) | exact HB.out)) hb); clear HO_311000; clear HO314; clear BK310; clear HB; have HO_311000 := n0_; have HO314 := n1_; have BK310 := n2_; have HB := n3_; clear n0_ n1_ n2_ n3_; (try clear hb); (try clear hb2); (try clear hk); (try clear hi); have hcz61_0 : w60.cell? ⟨gb310, 0, none⟩ = some (u311000) := (blk_cell BK310.out 0).trans rfl; have hcz61_1 : w60.cell? ⟨gb310, 1, none⟩ = some (.int .i64 x311001_3) := (blk_cell BK310.out 1).trans rfl; have hcz61_2 : w60.cell? ⟨gb310, 2, none⟩ = some (.int .i64 x311002_3) := (blk_cell BK310.out 2).trans rfl; have hcz61_3 : w60.cell? ⟨gb310, 3, none⟩ = some (.int .i64 x311003_3) := (blk_cell BK310.out 3).trans rfl; have hcz61_4 : w60.cell? ⟨gb310, 4, none⟩ = some (.bool x311004_3) := (blk_cell BK310.out 4).trans rfl; have hfz61_0 := blk_frozen BK310.out 0; have hfz61_1 := blk_frozen BK310.out 1; have hfz61_2 := blk_frozen BK310.out 2; have hfz61_3 := blk_frozen BK310.out 3; have hfz61_4 := blk_frozen BK310.out 4; obtain ⟨Ao62, co62, eo62⟩ := Kd.R_slice HO314.out; subst eo62; obtain ⟨Ao63, co63, eo63⟩ := Kd.R_slice HO_311000.out; subst eo63) | (go_at_call 14; (with_reducible refine (endonymref3_Same.calls kj19 _ _ t311 _ _ x311000_3 t316 _ ?side1 ?side2 ?side3 ?side4 A58.out).mono ?_); (case side1 => repeat (first | exact (Kd.R_reads' HO314.out).2.2 | (with_reducible refine Kd.C_alloc ?_ _) | (with_reducible refine Kd.C_drewN ?_ _) | (with_reducible refine Kd.C_drew ?_))); (case side2 => exact (Kd.R_reads' HO314.out).2.1); (case side3 => repeat (first | exact (Kd.R_reads' HO_311000.out).2.2 | (with_reducible refine Kd.C_alloc ?_ _) | (with_reducible refine Kd.C_drewN ?_ _) | (with_reducible refine Kd.C_drew ?_))); (case side4 => exact (Kd.R_reads' HO_311000.out).2.1); rintro e w' ⟨rfl, ⟨nd, rfl⟩⟩))
                        go_ret
                        exact ⟨by first | rfl | (simp [errW_none, errW_some] <;> rfl) | (simp [*, errW_none, errW_some] <;> rfl), by repeat (first | (with_reducible first | exact HB.out | apply below_alloc | apply pw_below_drewN | apply below_drew1 | refine below_set ?_ GE310.out) | exact HB.out)⟩
                      · rw [if_neg c57] at H
                        have c57b0 : (t312 == 0) = false := beq_eq_false_iff_ne.mpr c57
                        have c57b1 : (t312 != 0) = true := bne_iff_ne.mpr c57
                        obtain rfl := Option.some.inj H
                        go_wp2_with (first | ((with_reducible refine gate_callee (f := 15) rfl ?_); refine goesL_ (some 108) rfl rfl Try.func15 (by kernel_rfl) rfl #[.string x7_3] rfl (by (try simp only [List.map_toArray, List.map_cons, List.map_nil]); first | done | rfl | (simp only [List.length_drop, List.length_take]; rfl)) ?_; (with_reducible refine (puny_Decode.calls kj19 x7_3 t311 t312 _ A54.out).mono ?_); rintro e w64 ⟨v313, rfl, ho0, hb⟩; refine ⟨_, rfl, ?_⟩; have n0_ := Aside0.mk (Kd.R_elder' (by (with_reducible repeat (first | apply Kd.R_alloc | apply Kd.R_drewN | apply Kd.R_drew)); exact HO_311000.out) (Kd.R_base ho0) hb); have n1_ := Aside0.mk (Kd.R_lower (Kd.R_new' ho0 (Kd.R_lt (by (with_reducible repeat (first | apply Kd.R_alloc | apply Kd.R_drewN | apply Kd.R_drew)); exact HO_311000.out))) (below_size (by repeat (first | (with_reducible first | exact HB.out | apply below_alloc | apply pw_below_drewN | apply below_drew1 | refine below_set ?_ GE310.out) | exact HB.out)))); have n2_ := Aside0.mk (blk_below (g := gb310) (o := .cells #[u311000, .int .i64 x311001_3, .int .i64 x311002_3, .int .i64 x311003_3, .bool x311004_3] 45 (0, 0)) (by (with_reducible repeat (first | refine blk_drewN ?_ _ | refine blk_drew ?_ | refine blk_alloc ?_ _)); exact BK310.out) hb); have n3_ := Aside0.mk (below_step (by repeat (first | (with_reducible first | exact HB.out | apply below_alloc | apply pw_below_drewN | apply below_drew1 | refine below_set ?_ GE310.out) | exact HB.out)) hb); clear HO_311000; clear BK310; clear HB; have HO_311000 := n0_; have HO314 := n1_; have BK310 := n2_; have HB := n3_; clear n0_ n1_ n2_ n3_; (try clear hb); (try clear hb2); (try clear hk); (try clear hi); (try clear ho0)) | ((with_reducible refine gate_callee (f := 13) rfl ?_); refine goesL_ (some 111) rfl rfl Try.func13 (by kernel_rfl) rfl #[] rfl (by (try simp only [List.map_toArray, List.map_cons, List.map_nil]); first | done | rfl | (simp only [List.length_drop, List.length_take]; rfl)) ?_; (with_reducible refine (endonymlaw11_told.calls kj19  true _ A55.out).mono ?_); rintro e w65 ⟨rfl, hb⟩; refine ⟨_, rfl, ?_⟩; have n0_ := Aside0.mk (Kd.R_below (by (with_reducible repeat (first | apply Kd.R_alloc | apply Kd.R_drewN | apply Kd.R_drew)); exact HO_311000.out) hb); have n1_ := Aside0.mk (Kd.R_below (by (with_reducible repeat (first | apply Kd.R_alloc | apply Kd.R_drewN | apply Kd.R_drew)); exact HO314.out) hb); have n2_ := Aside0.mk (blk_below (g := gb310) (o := .cells #[u311000, .int .i64 x311001_3, .int .i64 x311002_3, .int .i64 x311003_3, .bool x311004_3] 45 (0, 0)) (by (with_reducible repeat (first | refine blk_drewN ?_ _ | refine blk_drew ?_ | refine blk_alloc ?_ _)); exact BK310.out) hb); have n3_ := Aside0.mk (below_step (by repeat (first | (with_reducible first | exact HB.out | apply below_alloc | apply pw_below_drewN | apply below_drew1 | refine below_set ?_ GE310.out) | exact HB.out)) hb); clear HO_311000; clear HO314; clear BK310; clear HB; have HO_311000 := n0_; have HO314 := n1_; have BK310 := n2_; have HB := n3_; clear n0_ n1_ n2_ n3_; (try clear hb); (try clear hb2); (try clear hk); (try clear hi)))
                        go_ret
                        exact ⟨by first | rfl | (simp [errW_none, errW_some] <;> rfl) | (simp [*, errW_none, errW_some] <;> rfl), by repeat (first | (with_reducible first | exact HB.out | apply below_alloc | apply pw_below_drewN | apply below_drew1 | refine below_set ?_ GE310.out) | exact HB.out)⟩
                    · replace c56 := Bool.eq_false_iff.mpr c56
                      subst c56
                      have H1 : (some false) = some r := by rw [if_neg (show ¬ (false = true) by decide)] at H; exact H
                      clear H
                      have H := H1
                      clear H1
                      obtain rfl := Option.some.inj H
                      go_wp2_with (first | ((with_reducible refine gate_callee (f := 15) rfl ?_); refine goesL_ (some 108) rfl rfl Try.func15 (by kernel_rfl) rfl #[.string x7_3] rfl (by (try simp only [List.map_toArray, List.map_cons, List.map_nil]); first | done | rfl | (simp only [List.length_drop, List.length_take]; rfl)) ?_; (with_reducible refine (puny_Decode.calls kj19 x7_3 t311 t312 _ A54.out).mono ?_); rintro e w66 ⟨v313, rfl, ho0, hb⟩; refine ⟨_, rfl, ?_⟩; have n0_ := Aside0.mk (Kd.R_elder' (by (with_reducible repeat (first | apply Kd.R_alloc | apply Kd.R_drewN | apply Kd.R_drew)); exact HO_311000.out) (Kd.R_base ho0) hb); have n1_ := Aside0.mk (Kd.R_lower (Kd.R_new' ho0 (Kd.R_lt (by (with_reducible repeat (first | apply Kd.R_alloc | apply Kd.R_drewN | apply Kd.R_drew)); exact HO_311000.out))) (below_size (by repeat (first | (with_reducible first | exact HB.out | apply below_alloc | apply pw_below_drewN | apply below_drew1 | refine below_set ?_ GE310.out) | exact HB.out)))); have n2_ := Aside0.mk (blk_below (g := gb310) (o := .cells #[u311000, .int .i64 x311001_3, .int .i64 x311002_3, .int .i64 x311003_3, .bool x311004_3] 45 (0, 0)) (by (with_reducible repeat (first | refine blk_drewN ?_ _ | refine blk_drew ?_ | refine blk_alloc ?_ _)); exact BK310.out) hb); have n3_ := Aside0.mk (below_step (by repeat (first | (with_reducible first | exact HB.out | apply below_alloc | apply pw_below_drewN | apply below_drew1 | refine below_set ?_ GE310.out) | exact HB.out)) hb); clear HO_311000; clear BK310; clear HB; have HO_311000 := n0_; have HO314 := n1_; have BK310 := n2_; have HB := n3_; clear n0_ n1_ n2_ n3_; (try clear hb); (try clear hb2); (try clear hk); (try clear hi); (try clear ho0)) | ((with_reducible refine gate_callee (f := 13) rfl ?_); refine goesL_ (some 111) rfl rfl Try.func13 (by kernel_rfl) rfl #[] rfl (by (try simp only [List.map_toArray, List.map_cons, List.map_nil]); first | done | rfl | (simp only [List.length_drop, List.length_take]; rfl)) ?_; (with_reducible refine (endonymlaw11_told.calls kj19  false _ A55.out).mono ?_); rintro e w67 ⟨rfl, hb⟩; refine ⟨_, rfl, ?_⟩; have n0_ := Aside0.mk (Kd.R_below (by (with_reducible repeat (first | apply Kd.R_alloc | apply Kd.R_drewN | apply Kd.R_drew)); exact HO_311000.out) hb); have n1_ := Aside0.mk (Kd.R_below (by (with_reducible repeat (first | apply Kd.R_alloc | apply Kd.R_drewN | apply Kd.R_drew)); exact HO314.out) hb); have n2_ := Aside0.mk (blk_below (g := gb310) (o := .cells #[u311000, .int .i64 x311001_3, .int .i64 x311002_3, .int .i64 x311003_3, .bool x311004_3] 45 (0, 0)) (by (with_reducible repeat (first | refine blk_drewN ?_ _ | refine blk_drew ?_ | refine blk_alloc ?_ _)); exact BK310.out) hb); have n3_ := Aside0.mk (below_step (by repeat (first | (with_reducible first | exact HB.out | apply below_alloc | apply pw_below_drewN | apply below_drew1 | refine below_set ?_ GE310.out) | exact HB.out)) hb); clear HO_311000; clear HO314; clear BK310; clear HB; have HO_311000 := n0_; have HO314 := n1_; have BK310 := n2_; have HB := n3_; clear n0_ n1_ n2_ n3_; (try clear hb); (try clear hb2); (try clear hk); (try clear hi)))
                      go_ret
                      exact ⟨by first | rfl | (simp [errW_none, errW_some] <;> rfl) | (simp [*, errW_none, errW_some] <;> rfl), by repeat (first | (with_reducible first | exact HB.out | apply below_alloc | apply pw_below_drewN | apply below_drew1 | refine below_set ?_ GE310.out) | exact HB.out)⟩

/-- THE ONE PURE STATEMENT of endonymlaw11_PunyHands: yours. -/
def endonymlaw11_PunyHands.Pure : Prop := ∀ (l0 : List Int) (l1 : List Int), l0.length ≤ maxLen → l0.length * 4 ≤ 140737488351232 → (∀ x ∈ l0, (Lit.int .i32 x).wf = true) → l1.length ≤ maxLen → l1.length * 8 ≤ 140737488351232 → (∀ x ∈ l1, (Lit.int .i64 x).wf = true) → ∃ k, endonymlaw11_PunyHands.f k l0 l1 = some true
theorem endonymlaw11_PunyHands.walk (P : endonymlaw11_PunyHands.Pure) (a0 : Option Addr) (len0 cap0 : Nat) (z0 : List Int) (a1 : Option Addr) (len1 cap1 : Nat) (z1 : List Int) (w : World) (w0 : (a0 = none ∧ len0 = 0 ∧ cap0 = 0 ∧ z0 = []) ∨ ∃ x, a0 = some x ∧ len0 ≤ cap0 ∧ cap0 ≤ maxLen ∧ z0.length = cap0 ∧ (∀ i, i < z0.length → w.cell? (x.add i) = some (.int .i32 (z0.getD i 0))) ∧ ∀ n ∈ z0, (Lit.int .i32 n).wf = true) (y0 : len0 * 4 ≤ 140737488351232) (w1 : (a1 = none ∧ len1 = 0 ∧ cap1 = 0 ∧ z1 = []) ∨ ∃ x, a1 = some x ∧ len1 ≤ cap1 ∧ cap1 ≤ maxLen ∧ z1.length = cap1 ∧ (∀ i, i < z1.length → w.cell? (x.add i) = some (.int .i64 (z1.getD i 0))) ∧ ∀ n ∈ z1, (Lit.int .i64 n).wf = true) (y1 : len1 * 8 ≤ 140737488351232) :
    Calls Try.prog 9 #[.slice a0 len0 cap0, .slice a1 len1 cap1] w fun e w' => e = .returned (.bool true) ∧ Below w.heap.size w w' := by
  obtain ⟨l0, rfl, hr0, hm0, hw0, hc0⟩ := ReadsInt.ofRowC w0
  obtain ⟨l1, rfl, hr1, hm1, hw1, hc1⟩ := ReadsInt.ofRowC w1
  obtain ⟨k, h⟩ := P l0 l1 hm0 y0 hw0 hm1 y1 hw1
  refine (endonymlaw11_PunyHands.calls k _ _ l0 _ _ l1 true w (Kd.C_of_reads (d := (0 : Int)) (h1 := fun _ => rfl) hr0) hc0 (Kd.C_of_reads (d := (0 : Int)) (h1 := fun _ => rfl) hr1) hc1 h).mono ?_
  rintro e w' ⟨rfl, hd⟩
  exact ⟨rfl, hd⟩

end Go.Proofs.Yticocjpfhllelaa.XP
