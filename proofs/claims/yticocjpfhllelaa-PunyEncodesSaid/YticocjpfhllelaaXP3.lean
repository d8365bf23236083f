-- Written by xprint.py, a program of this session's own, out of the translation.
import Derived.Test.YticocjpfhllelaaXP0
import Derived.Test.YticocjpfhllelaaXP2
namespace Go.Proofs.Yticocjpfhllelaa.XP
open Go.RowKit Go.Proofs.YticocjpfhllelaaW.PrintWords Go.Proofs.YticocjpfhllelaaW.PrintLast Go.Proofs.YticocjpfhllelaaW.PrintMore
attribute [local go_sem] max2_int min2_int max_two min_two max_three min_three max_four min_four   -- for this text's walks alone
set_option linter.unusedVariables false
set_option linter.unusedSimpArgs false

/-! ### endonymref11_Encode: function 12 -/
mutual
def endonymref11_Encode.l0 : Nat → List Int → ByteArray → Int → Int → Option (ByteArray × Int)
  | 0, _, _, _, _ => none
  | k + 1, x0, x4, x5, x6 => if x6 < (x0.length : Int) then (if 0 ≤ x6 then (if (rd x0 x6) < 128 then ((some (([(rd x0 x6) % 256] : List Int) : List Int)).bind fun y131 => (if x4.size + (strOfNums y131).size ≤ 9223372036854775807 then (endonymref11_Encode.l0 k x0 (x4 ++ (strOfNums y131)) (wrap64 (x5 + 1)) (wrap64 (x6 + 1))) else (none))) else (endonymref11_Encode.l0 k x0 x4 x5 (wrap64 (x6 + 1)))) else (none)) else (if x5 > 0 then (if x4.size + 1 ≤ 9223372036854775807 then (endonymref11_Encode.j1 k x0 (x4 ++ (⟨#[45]⟩ : ByteArray)) x5) else (none)) else (endonymref11_Encode.j1 k x0 x4 x5))
def endonymref11_Encode.j1 : Nat → List Int → ByteArray → Int → Option (ByteArray × Int)
  | 0, _, _, _ => none
  | k + 1, x0, x4, x5 => endonymref11_Encode.l1 k x0 x4 x5 128 0 72 true
def endonymref11_Encode.l1 : Nat → List Int → ByteArray → Int → Int → Int → Int → Bool → Option (ByteArray × Int)
  | 0, _, _, _, _, _, _, _ => none
  | k + 1, x0, x4, x5, x7, x8, x9, x10 => if x5 < (x0.length : Int) then (endonymref11_Encode.l2 k x0 x4 x5 x7 x8 x9 x10 1114112 0) else (some (x4, 0))
def endonymref11_Encode.l2 : Nat → List Int → ByteArray → Int → Int → Int → Int → Bool → Int → Int → Option (ByteArray × Int)
  | 0, _, _, _, _, _, _, _, _, _ => none
  | k + 1, x0, x4, x5, x7, x8, x9, x10, x11, x12 => if x12 < (x0.length : Int) then (if 0 ≤ x12 then (if (wrap64 (rd x0 x12)) ≥ x7 then (endonymref11_Encode.l2 k x0 x4 x5 x7 x8 x9 x10 (mn x11 (wrap64 (rd x0 x12))) (wrap64 (x12 + 1))) else (endonymref11_Encode.l2 k x0 x4 x5 x7 x8 x9 x10 x11 (wrap64 (x12 + 1)))) else (none)) else (endonymref11_Encode.l3 k x0 x4 x5 x11 (wrap64 (x8 + (wrap64 ((wrap64 (x11 - x7)) * (wrap64 (x5 + 1)))))) x9 x10 0)
def endonymref11_Encode.l3 : Nat → List Int → ByteArray → Int → Int → Int → Int → Bool → Int → Option (ByteArray × Int)
  | 0, _, _, _, _, _, _, _, _ => none
  | k + 1, x0, x4, x5, x7, x8, x9, x10, x13 => if x13 < (x0.length : Int) then (if 0 ≤ x13 then (if (wrap64 (rd x0 x13)) < x7 then (endonymref11_Encode.j5 k x0 x4 x5 x7 (wrap64 (x8 + 1)) x9 x10 x13) else (endonymref11_Encode.j5 k x0 x4 x5 x7 x8 x9 x10 x13)) else (none)) else (endonymref11_Encode.l1 k x0 x4 x5 (wrap64 (x7 + 1)) (wrap64 (x8 + 1)) x9 x10)
def endonymref11_Encode.j5 : Nat → List Int → ByteArray → Int → Int → Int → Int → Bool → Int → Option (ByteArray × Int)
  | 0, _, _, _, _, _, _, _, _ => none
  | k + 1, x0, x4, x5, x7, x8, x9, x10, x13 => if 0 ≤ x13 then (if x13 < (x0.length : Int) then (if (wrap64 (rd x0 x13)) = x7 then (if x8 > 2147483647 then (some ((⟨#[]⟩ : ByteArray), 113)) else ((endonymref11_number.f k x8 x9).bind fun t138 => (if x4.size + t138.size ≤ 9223372036854775807 then ((endonymref11_Adapt.f k x8 (wrap64 (x5 + 1)) x10).bind fun t139 => (endonymref11_Encode.l3 k x0 (x4 ++ t138) (wrap64 (x5 + 1)) x7 0 t139 false (wrap64 (x13 + 1)))) else (none)))) else (endonymref11_Encode.l3 k x0 x4 x5 x7 x8 x9 x10 (wrap64 (x13 + 1)))) else (none)) else (none)
end
def endonymref11_Encode.f (k : Nat) (l0 : List Int) : Option (ByteArray × Int) := if (l0.length : Int) > 65536 then (some ((⟨#[]⟩ : ByteArray), 2)) else ((endonymref3_Sound.f k l0).bind fun t128 => (if t128 = true then (endonymref11_Encode.l0 k l0 (⟨#[]⟩ : ByteArray) 0 0) else (some ((⟨#[]⟩ : ByteArray), 31))))
theorem endonymref11_Encode.mono_l : ∀ k, (∀ y0 y1 y2 y3, LeO (endonymref11_Encode.l0 k y0 y1 y2 y3) (endonymref11_Encode.l0 (k + 1) y0 y1 y2 y3)) ∧ (∀ y0 y1 y2, LeO (endonymref11_Encode.j1 k y0 y1 y2) (endonymref11_Encode.j1 (k + 1) y0 y1 y2)) ∧ (∀ y0 y1 y2 y3 y4 y5 y6, LeO (endonymref11_Encode.l1 k y0 y1 y2 y3 y4 y5 y6) (endonymref11_Encode.l1 (k + 1) y0 y1 y2 y3 y4 y5 y6)) ∧ (∀ y0 y1 y2 y3 y4 y5 y6 y7 y8, LeO (endonymref11_Encode.l2 k y0 y1 y2 y3 y4 y5 y6 y7 y8) (endonymref11_Encode.l2 (k + 1) y0 y1 y2 y3 y4 y5 y6 y7 y8)) ∧ (∀ y0 y1 y2 y3 y4 y5 y6 y7, LeO (endonymref11_Encode.l3 k y0 y1 y2 y3 y4 y5 y6 y7) (endonymref11_Encode.l3 (k + 1) y0 y1 y2 y3 y4 y5 y6 y7)) ∧ (∀ y0 y1 y2 y3 y4 y5 y6 y7, LeO (endonymref11_Encode.j5 k y0 y1 y2 y3 y4 y5 y6 y7) (endonymref11_Encode.j5 (k + 1) y0 y1 y2 y3 y4 y5 y6 y7))
  | 0 => ⟨fun _ _ _ _ r h => by simp [endonymref11_Encode.l0] at h, fun _ _ _ r h => by simp [endonymref11_Encode.j1] at h, fun _ _ _ _ _ _ _ r h => by simp [endonymref11_Encode.l1] at h, fun _ _ _ _ _ _ _ _ _ r h => by simp [endonymref11_Encode.l2] at h, fun _ _ _ _ _ _ _ _ r h => by simp [endonymref11_Encode.l3] at h, fun _ _ _ _ _ _ _ _ r h => by simp [endonymref11_Encode.j5] at h⟩
  | k + 1 => by
    obtain ⟨ih0, ih1, ih2, ih3, ih4, ih5⟩ := endonymref11_Encode.mono_l k
    refine ⟨?_, ?_, ?_, ?_, ?_, ?_⟩
    · intro y0 y1 y2 y3
      unfold endonymref11_Encode.l0
      repeat' first
      | (with_reducible exact ih0 _ _ _ _)
      | (with_reducible exact ih1 _ _ _)
      | (with_reducible exact ih2 _ _ _ _ _ _ _)
      | (with_reducible exact ih3 _ _ _ _ _ _ _ _ _)
      | (with_reducible exact ih4 _ _ _ _ _ _ _ _)
      | (with_reducible exact ih5 _ _ _ _ _ _ _ _)
      | (with_reducible exact endonymref11_Adapt.mono _ _ _ _)
      | (with_reducible exact endonymref11_number.mono _ _ _)
      | (with_reducible exact endonymref3_Sound.mono _ _)
      | (with_reducible exact LeO.refl _)
      | (with_reducible exact LeO.none _)
      | (with_reducible refine LeO.ite ?_ ?_)
      | (with_reducible refine LeO.bind ?_ (fun _ => ?_))
      | exact ih0 _ _ _ _
      | exact ih1 _ _ _
      | exact ih2 _ _ _ _ _ _ _
      | exact ih3 _ _ _ _ _ _ _ _ _
      | exact ih4 _ _ _ _ _ _ _ _
      | exact ih5 _ _ _ _ _ _ _ _
      | exact endonymref11_Adapt.mono _ _ _ _
      | exact endonymref11_number.mono _ _ _
      | exact endonymref3_Sound.mono _ _
      | exact LeO.none _
      | refine LeO.ite ?_ ?_
      | refine LeO.bind ?_ (fun _ => ?_)
    · intro y0 y1 y2
      unfold endonymref11_Encode.j1
      repeat' first
      | (with_reducible exact ih0 _ _ _ _)
      | (with_reducible exact ih1 _ _ _)
      | (with_reducible exact ih2 _ _ _ _ _ _ _)
      | (with_reducible exact ih3 _ _ _ _ _ _ _ _ _)
      | (with_reducible exact ih4 _ _ _ _ _ _ _ _)
      | (with_reducible exact ih5 _ _ _ _ _ _ _ _)
      | (with_reducible exact endonymref11_Adapt.mono _ _ _ _)
      | (with_reducible exact endonymref11_number.mono _ _ _)
      | (with_reducible exact endonymref3_Sound.mono _ _)
      | (with_reducible exact LeO.refl _)
      | (with_reducible exact LeO.none _)
      | (with_reducible refine LeO.ite ?_ ?_)
      | (with_reducible refine LeO.bind ?_ (fun _ => ?_))
      | exact ih0 _ _ _ _
      | exact ih1 _ _ _
      | exact ih2 _ _ _ _ _ _ _
      | exact ih3 _ _ _ _ _ _ _ _ _
      | exact ih4 _ _ _ _ _ _ _ _
      | exact ih5 _ _ _ _ _ _ _ _
      | exact endonymref11_Adapt.mono _ _ _ _
      | exact endonymref11_number.mono _ _ _
      | exact endonymref3_Sound.mono _ _
      | exact LeO.none _
      | refine LeO.ite ?_ ?_
      | refine LeO.bind ?_ (fun _ => ?_)
    · intro y0 y1 y2 y3 y4 y5 y6
      unfold endonymref11_Encode.l1
      repeat' first
      | (with_reducible exact ih0 _ _ _ _)
      | (with_reducible exact ih1 _ _ _)
      | (with_reducible exact ih2 _ _ _ _ _ _ _)
      | (with_reducible exact ih3 _ _ _ _ _ _ _ _ _)
      | (with_reducible exact ih4 _ _ _ _ _ _ _ _)
      | (with_reducible exact ih5 _ _ _ _ _ _ _ _)
      | (with_reducible exact endonymref11_Adapt.mono _ _ _ _)
      | (with_reducible exact endonymref11_number.mono _ _ _)
      | (with_reducible exact endonymref3_Sound.mono _ _)
      | (with_reducible exact LeO.refl _)
      | (with_reducible exact LeO.none _)
      | (with_reducible refine LeO.ite ?_ ?_)
      | (with_reducible refine LeO.bind ?_ (fun _ => ?_))
      | exact ih0 _ _ _ _
      | exact ih1 _ _ _
      | exact ih2 _ _ _ _ _ _ _
      | exact ih3 _ _ _ _ _ _ _ _ _
      | exact ih4 _ _ _ _ _ _ _ _
      | exact ih5 _ _ _ _ _ _ _ _
      | exact endonymref11_Adapt.mono _ _ _ _
      | exact endonymref11_number.mono _ _ _
      | exact endonymref3_Sound.mono _ _
      | exact LeO.none _
      | refine LeO.ite ?_ ?_
      | refine LeO.bind ?_ (fun _ => ?_)
    · intro y0 y1 y2 y3 y4 y5 y6 y7 y8
      unfold endonymref11_Encode.l2
      repeat' first
      | (with_reducible exact ih0 _ _ _ _)
      | (with_reducible exact ih1 _ _ _)
      | (with_reducible exact ih2 _ _ _ _ _ _ _)
      | (with_reducible exact ih3 _ _ _ _ _ _ _ _ _)
      | (with_reducible exact ih4 _ _ _ _ _ _ _ _)
      | (with_reducible exact ih5 _ _ _ _ _ _ _ _)
      | (with_reducible exact endonymref11_Adapt.mono _ _ _ _)
      | (with_reducible exact endonymref11_number.mono _ _ _)
      | (with_reducible exact endonymref3_Sound.mono _ _)
      | (with_reducible exact LeO.refl _)
      | (with_reducible exact LeO.none _)
      | (with_reducible refine LeO.ite ?_ ?_)
      | (with_reducible refine LeO.bind ?_ (fun _ => ?_))
      | exact ih0 _ _ _ _
      | exact ih1 _ _ _
      | exact ih2 _ _ _ _ _ _ _
      | exact ih3 _ _ _ _ _ _ _ _ _
      | exact ih4 _ _ _ _ _ _ _ _
      | exact ih5 _ _ _ _ _ _ _ _
      | exact endonymref11_Adapt.mono _ _ _ _
      | exact endonymref11_number.mono _ _ _
      | exact endonymref3_Sound.mono _ _
      | exact LeO.none _
      | refine LeO.ite ?_ ?_
      | refine LeO.bind ?_ (fun _ => ?_)
    · intro y0 y1 y2 y3 y4 y5 y6 y7
      unfold endonymref11_Encode.l3
      repeat' first
      | (with_reducible exact ih0 _ _ _ _)
      | (with_reducible exact ih1 _ _ _)
      | (with_reducible exact ih2 _ _ _ _ _ _ _)
      | (with_reducible exact ih3 _ _ _ _ _ _ _ _ _)
      | (with_reducible exact ih4 _ _ _ _ _ _ _ _)
      | (with_reducible exact ih5 _ _ _ _ _ _ _ _)
      | (with_reducible exact endonymref11_Adapt.mono _ _ _ _)
      | (with_reducible exact endonymref11_number.mono _ _ _)
      | (with_reducible exact endonymref3_Sound.mono _ _)
      | (with_reducible exact LeO.refl _)
      | (with_reducible exact LeO.none _)
      | (with_reducible refine LeO.ite ?_ ?_)
      | (with_reducible refine LeO.bind ?_ (fun _ => ?_))
      | exact ih0 _ _ _ _
      | exact ih1 _ _ _
      | exact ih2 _ _ _ _ _ _ _
      | exact ih3 _ _ _ _ _ _ _ _ _
      | exact ih4 _ _ _ _ _ _ _ _
      | exact ih5 _ _ _ _ _ _ _ _
      | exact endonymref11_Adapt.mono _ _ _ _
      | exact endonymref11_number.mono _ _ _
      | exact endonymref3_Sound.mono _ _
      | exact LeO.none _
      | refine LeO.ite ?_ ?_
      | refine LeO.bind ?_ (fun _ => ?_)
    · intro y0 y1 y2 y3 y4 y5 y6 y7
      unfold endonymref11_Encode.j5
      repeat' first
      | (with_reducible exact ih0 _ _ _ _)
      | (with_reducible exact ih1 _ _ _)
      | (with_reducible exact ih2 _ _ _ _ _ _ _)
      | (with_reducible exact ih3 _ _ _ _ _ _ _ _ _)
      | (with_reducible exact ih4 _ _ _ _ _ _ _ _)
      | (with_reducible exact ih5 _ _ _ _ _ _ _ _)
      | (with_reducible exact endonymref11_Adapt.mono _ _ _ _)
      | (with_reducible exact endonymref11_number.mono _ _ _)
      | (with_reducible exact endonymref3_Sound.mono _ _)
      | (with_reducible exact LeO.refl _)
      | (with_reducible exact LeO.none _)
      | (with_reducible refine LeO.ite ?_ ?_)
      | (with_reducible refine LeO.bind ?_ (fun _ => ?_))
      | exact ih0 _ _ _ _
      | exact ih1 _ _ _
      | exact ih2 _ _ _ _ _ _ _
      | exact ih3 _ _ _ _ _ _ _ _ _
      | exact ih4 _ _ _ _ _ _ _ _
      | exact ih5 _ _ _ _ _ _ _ _
      | exact endonymref11_Adapt.mono _ _ _ _
      | exact endonymref11_number.mono _ _ _
      | exact endonymref3_Sound.mono _ _
      | exact LeO.none _
      | refine LeO.ite ?_ ?_
      | refine LeO.bind ?_ (fun _ => ?_)
theorem endonymref11_Encode.mono : ∀ a0 k, LeO (endonymref11_Encode.f k a0) (endonymref11_Encode.f (k + 1) a0) := by
  intro a0 k
  obtain ⟨ih0, ih1, ih2, ih3, ih4, ih5⟩ := endonymref11_Encode.mono_l k
  unfold endonymref11_Encode.f
  repeat' first
      | (with_reducible exact ih0 _ _ _ _)
      | (with_reducible exact ih1 _ _ _)
      | (with_reducible exact ih2 _ _ _ _ _ _ _)
      | (with_reducible exact ih3 _ _ _ _ _ _ _ _ _)
      | (with_reducible exact ih4 _ _ _ _ _ _ _ _)
      | (with_reducible exact ih5 _ _ _ _ _ _ _ _)
      | (with_reducible exact endonymref11_Adapt.mono _ _ _ _)
      | (with_reducible exact endonymref11_number.mono _ _ _)
      | (with_reducible exact endonymref3_Sound.mono _ _)
      | (with_reducible exact LeO.refl _)
      | (with_reducible exact LeO.none _)
      | (with_reducible refine LeO.ite ?_ ?_)
      | (with_reducible refine LeO.bind ?_ (fun _ => ?_))
      | exact ih0 _ _ _ _
      | exact ih1 _ _ _
      | exact ih2 _ _ _ _ _ _ _
      | exact ih3 _ _ _ _ _ _ _ _ _
      | exact ih4 _ _ _ _ _ _ _ _
      | exact ih5 _ _ _ _ _ _ _ _
      | exact endonymref11_Adapt.mono _ _ _ _
      | exact endonymref11_number.mono _ _ _
      | exact endonymref3_Sound.mono _ _
      | exact LeO.none _
      | refine LeO.ite ?_ ?_
      | refine LeO.bind ?_ (fun _ => ?_)
set_option maxHeartbeats 8000000 in
set_option maxRecDepth 100000 in
theorem endonymref11_Encode.calls (k : Nat) (A0 : Option Addr) (c0 : Nat) (l0 : List Int) (r1 : ByteArray) (r2 : Int) (w : World) (hr0 : Kd.C (Kd.int .i32) w A0 l0.length l0) (hc0 : l0.length ≤ c0) (h : endonymref11_Encode.f k l0 = some (r1, r2)) :
    Calls Try.prog 12 #[.slice A0 l0.length c0] w fun e w' => e = .returned (.tuple #[.string r1, .int .i64 r2]) ∧ Below w.heap.size w w' := by
  have HR0 := Aside0.mk hr0
  have HC0 := Aside0.mk hc0
  clear hr0 hc0
  have HB := Aside0.mk (Below.refl w.heap.size w)
  have H : (if (l0.length : Int) > 65536 then (some ((⟨#[]⟩ : ByteArray), 2)) else ((endonymref3_Sound.f k l0).bind fun t128 => (if t128 = true then (endonymref11_Encode.l0 k l0 (⟨#[]⟩ : ByteArray) 0 0) else (some ((⟨#[]⟩ : ByteArray), 31))))) = some (r1, r2) := h
  clear h
  by_cases c2 : (l0.length : Int) > 65536
  · rw [if_pos c2] at H
    have c2b0 : decide (65536 < (l0.length : Int)) = true := decide_eq_true c2
    have c2b1 : decide (65536 < l0.length) = true := decide_eq_true (by omega)
    clear c2
    simp only [Option.some.injEq, Prod.mk.injEq] at H
    obtain ⟨rfl, rfl⟩ := H
    go_enter Try.func12, Try.ntmps12
    go_wp2
    go_ret2
    exact ⟨by first | rfl | (simp [errW_none, errW_some] <;> rfl) | (simp [*, errW_none, errW_some] <;> rfl), by repeat (first | (with_reducible first | exact HB.out | apply below_alloc | apply pw_below_drewN | apply below_drew1) | exact HB.out)⟩
  · rw [if_neg c2] at H
    have c2b0 : decide (65536 < (l0.length : Int)) = false := decide_eq_false c2
    have c2b1 : decide (65536 < l0.length) = false := decide_eq_false (by omega)
    clear c2
    replace H := Option.bind_eq_some_iff.mp H
    obtain ⟨t128, A30, H⟩ := H
    replace H : (if t128 = true then (endonymref11_Encode.l0 k l0 (⟨#[]⟩ : ByteArray) 0 0) else (some ((⟨#[]⟩ : ByteArray), 31))) = some (r1, r2) := H
    have A3 := Aside0.mk A30
    clear A30
    by_cases c4 : t128 = true
    · subst c4
      have H1 : (endonymref11_Encode.l0 k l0 (⟨#[]⟩ : ByteArray) 0 0) = some (r1, r2) := by rw [if_pos rfl] at H; exact H
      clear H
      have H := H1
      clear H1
      have H' := Aside0.mk H
      clear H
      go_enter Try.func12, Try.ntmps12
      go_wp2_with (first | ((with_reducible refine gate_callee (f := 20) rfl ?_); refine goesL_ (some 18) rfl rfl Try.func20 (by kernel_rfl) rfl #[.slice A0 l0.length c0] rfl (by (try simp only [List.map_toArray, List.map_cons, List.map_nil]); first | done | rfl | (simp only [List.length_drop, List.length_take]; rfl)) ?_; (with_reducible refine (endonymref3_Sound.calls k _ _ l0 true _ ?side1 ?side2 A3.out).mono ?_); (case side1 => repeat (first | exact HR0.out | (with_reducible refine Kd.C_alloc ?_ _) | (with_reducible refine Kd.C_drewN ?_ _) | (with_reducible refine Kd.C_drew ?_))); (case side2 => exact HC0.out); rintro e w' ⟨rfl, ⟨nd, rfl⟩⟩; refine ⟨_, rfl, ?_⟩))
      go_loopg [4, 5, 6] k (fun kq v4 v5 v6 w' => ∃ (x4_1 : ByteArray) (x5_1 : Int) (x6_1 : Int), v4 = .string x4_1 ∧ v5 = .int .i64 x5_1 ∧ v6 = .int .i64 x6_1 ∧ Aside0 (endonymref11_Encode.l0 kq l0 x4_1 x5_1 x6_1 = some (r1, r2)) ∧ Aside0 (kq ≤ k) ∧ Aside0 (Below w.heap.size w w'))
      case atStart => exact ⟨((⟨#[]⟩ : ByteArray)), (0), (0), (by first | rfl | (simp; done) | (simp [*]; done)), (by first | rfl | (simp; done) | (simp [*]; done)), (by first | rfl | (simp; done) | (simp [*]; done)), H', ⟨Nat.le_refl _⟩, ⟨by repeat (first | (with_reducible first | exact HB.out | apply below_alloc | apply pw_below_drewN | apply below_drew1) | exact HB.out)⟩⟩
      case round =>
        clear H'
        try clear c1
        try clear c2
        try clear c2b0
        try clear c2b1
        try clear p2
        try clear c4
        obtain ⟨x4_1, x5_1, x6_1, rfl, rfl, rfl, HA, HK1, HB⟩ := hrel
        cases gk with
        | zero => exact absurd HA.out (by simp [endonymref11_Encode.l0])
        | succ k1 =>
          have H := HA.out
          clear HA
          simp only [endonymref11_Encode.l0] at H
          by_cases c5 : x6_1 < (l0.length : Int)
          · rw [if_pos c5] at H
            have c5b0 : decide (x6_1 < (l0.length : Int)) = true := decide_eq_true c5
            clear c5
            by_cases c6 : 0 ≤ x6_1
            · rw [if_pos c6] at H
              have c6b0 : decide (0 ≤ x6_1) = true := decide_eq_true c6
              clear c6
              by_cases c7 : (rd l0 x6_1) < 128
              · rw [if_pos c7] at H
                have c7b0 : decide ((rd l0 x6_1) < 128) = true := decide_eq_true c7
                clear c7
                obtain ⟨y131, hy131⟩ : ∃ y_ : List Int, y_ = (([(rd l0 x6_1) % 256] : List Int)) := ⟨_, rfl⟩
                replace H : (if x4_1.size + (strOfNums y131).size ≤ 9223372036854775807 then (endonymref11_Encode.l0 k1 l0 (x4_1 ++ (strOfNums y131)) (wrap64 (x5_1 + 1)) (wrap64 (x6_1 + 1))) else (none)) = some (r1, r2) := by first | (rw [hy131]; with_reducible exact H) | (have H2_ := (Option.bind_some _ _).symm.trans H; rw [hy131]; with_reducible exact H2_) | (have H2_ := (Option.bind_some _ _).symm.trans H; with_reducible exact H2_) | with_reducible exact H | (rw [hy131]; exact H) | exact H
                have Ny131 := Aside0.mk hy131
                clear hy131
                by_cases c8 : x4_1.size + (strOfNums y131).size ≤ 9223372036854775807
                · rw [if_pos c8] at H
                  have c8b0 := eq_true c8
                  have c8b1 : decide (x4_1.size + (strOfNums y131).size ≤ 9223372036854775807) = true := decide_eq_true c8
                  try have c8b2 : (9223372036854775807 < x4_1.size + (strOfNums y131).size) = False := eq_false (Nat.not_lt.2 c8)
                  have H' := Aside0.mk H
                  clear H
                  have p129 : 0 ≤ (x6_1 : Int) := of_decide_eq_true (by first | (with_reducible assumption) | assumption)
                  have q129 : x6_1 < (l0.length : Int) := of_decide_eq_true (by first | (with_reducible assumption) | assumption)
                  obtain ⟨ad129, e129, hx129_0⟩ := Kd.at_int HR0.out x6_1 p129 q129
                  cases e129
                  replace hx129_0 := (HB.out.cell (World.block_lt_of_cell? w _ hx129_0)).trans hx129_0
                  replace p129 := eq_true p129
                  replace q129 := eq_true q129
                  have p130 : 0 ≤ (x6_1 : Int) := of_decide_eq_true (by first | (with_reducible assumption) | assumption)
                  have q130 : x6_1 < (l0.length : Int) := of_decide_eq_true (by first | (with_reducible assumption) | assumption)
                  obtain ⟨ad130, e130, hx130_0⟩ := Kd.at_int HR0.out x6_1 p130 q130
                  obtain rfl : ad129 = ad130 := (by injection e130)
                  replace hx130_0 := (HB.out.cell (World.block_lt_of_cell? w _ hx130_0)).trans hx130_0
                  replace p130 := eq_true p130
                  replace q130 := eq_true q130
                  go_wp2_with (first | ((with_reducible refine gate_dst (N := 37) rfl ?_); refine Kd.R_lit (Kd.int .u8) _ 5 ?hg (N := 37) ?hd (xs := ([(rd l0 x6_1) % 256] : List Int)) (inner := [.int .u8 ((rd l0 x6_1) % 256)]) (ok := fun _ => True) (okp := fun _ => True) ?hr ?hp (fun _ hk => hk) trivial (Below.refl _ _) (Nat.le_refl _) (by simp) ?_; (case hd => rfl); (case hg => rfl); (case hr => first | (go_simp; done) | (go_simp; rfl)); (case hp => exact (Reps.one (show Kd.M (Kd.int .u8) _ _ _ ((rd l0 x6_1) % 256) [.int .u8 ((rd l0 x6_1) % 256)] from rfl) (Reps.none _ _))); intro v132 w9 ho10 hb hg_ hnew_; clear hg_ hnew_; (first | rw [← Ny131.out] at ho10 | (simp only [Int.reduceToNat] at ho10; rw [← Ny131.out] at ho10)); have n0_ := Aside0.mk (Kd.R_lower ho10 (below_size (by repeat (first | (with_reducible first | exact HB.out | apply below_alloc | apply pw_below_drewN | apply below_drew1) | exact HB.out)))); have n1_ := Aside0.mk (below_step (by repeat (first | (with_reducible first | exact HB.out | apply below_alloc | apply pw_below_drewN | apply below_drew1) | exact HB.out)) hb); clear HB; have HO133 := n0_; have HB := n1_; clear n0_ n1_; clear hb ho10; have hcv11 := own_string (P := Try.prog) Try.underlying40 Try.underlying5 Try.underlying9 (Kd.own_of_R HO133.out)))
                  go_roundg k1
                  case measure => have := HK1.out; omega
                  case rel => exact ⟨(x4_1 ++ (strOfNums y131)), (wrap64 (x5_1 + 1)), (wrap64 (x6_1 + 1)), (by first | rfl | (simp; done) | (simp [*]; done)), (by first | rfl | (simp; done) | (simp [*]; done)), (by first | rfl | (simp; done) | (simp [*]; done)), H', ⟨by have := HK1.out; omega⟩, ⟨by repeat (first | (with_reducible first | exact HB.out | apply below_alloc | apply pw_below_drewN | apply below_drew1) | exact HB.out)⟩⟩
                · rw [if_neg c8] at H
                  exact absurd H (by simp)
              · rw [if_neg c7] at H
                have c7b0 : decide ((rd l0 x6_1) < 128) = false := decide_eq_false c7
                clear c7
                have H' := Aside0.mk H
                clear H
                have p129 : 0 ≤ (x6_1 : Int) := of_decide_eq_true (by first | (with_reducible assumption) | assumption)
                have q129 : x6_1 < (l0.length : Int) := of_decide_eq_true (by first | (with_reducible assumption) | assumption)
                obtain ⟨ad129, e129, hx129_0⟩ := Kd.at_int HR0.out x6_1 p129 q129
                cases e129
                replace hx129_0 := (HB.out.cell (World.block_lt_of_cell? w _ hx129_0)).trans hx129_0
                replace p129 := eq_true p129
                replace q129 := eq_true q129
                go_wp2
                go_roundg k1
                case measure => have := HK1.out; omega
                case rel => exact ⟨(x4_1), (x5_1), (wrap64 (x6_1 + 1)), (by first | rfl | (simp; done) | (simp [*]; done)), (by first | rfl | (simp; done) | (simp [*]; done)), (by first | rfl | (simp; done) | (simp [*]; done)), H', ⟨by have := HK1.out; omega⟩, ⟨by repeat (first | (with_reducible first | exact HB.out | apply below_alloc | apply pw_below_drewN | apply below_drew1) | exact HB.out)⟩⟩
            · rw [if_neg c6] at H
              exact absurd H (by simp)
          · rw [if_neg c5] at H
            have c5b0 : decide (x6_1 < (l0.length : Int)) = false := decide_eq_false c5
            clear c5
            have HC12 := Aside0.mk H
            clear H
            go_upto_if 43 with (fail)
            go_cut [4] (fun v4 wc => ∃ (kq : Nat) (x4_11 : ByteArray), v4 = .string x4_11 ∧ Aside0 (endonymref11_Encode.j1 kq l0 x4_11 x5_1 = some (r1, r2)) ∧ Aside0 (kq ≤ k1) ∧ Aside0 (Below w.heap.size w wc))
            case first =>
              have H := HC12.out
              clear HC12
              by_cases c13 : x5_1 > 0
              · rw [if_pos c13] at H
                have c13b0 : decide (0 < x5_1) = true := decide_eq_true c13
                clear c13
                (first | rw [c13b0] | (simp only [i64_w, i32_w]; rw [c13b0]) | skip)
                by_cases c14 : x4_1.size + 1 ≤ 9223372036854775807
                · rw [if_pos c14] at H
                  have c14b0 := eq_true c14
                  have c14b1 : decide (x4_1.size + 1 ≤ 9223372036854775807) = true := decide_eq_true c14
                  try have c14b2 : (9223372036854775807 < x4_1.size + 1) = False := eq_false (Nat.not_lt.2 c14)
                  have H' := Aside0.mk H
                  clear H
                  go_wp2
                  go_meet
                  case rel => exact ⟨_, (x4_1 ++ (⟨#[45]⟩ : ByteArray)), (by first | rfl | (simp; done) | (simp [*]; done)), H', ⟨by have := HK1.out; first | omega | exact Nat.le_refl _⟩, ⟨by repeat (first | (with_reducible first | exact HB.out | apply below_alloc | apply pw_below_drewN | apply below_drew1) | exact HB.out)⟩⟩
                · rw [if_neg c14] at H
                  exact absurd H (by simp)
              · rw [if_neg c13] at H
                have c13b0 : decide (0 < x5_1) = false := decide_eq_false c13
                clear c13
                (first | rw [c13b0] | (simp only [i64_w, i32_w]; rw [c13b0]) | skip)
                have H' := Aside0.mk H
                clear H
                go_wp2
                go_meet
                case rel => exact ⟨_, (x4_1), (by first | rfl | (simp; done) | (simp [*]; done)), H', ⟨by have := HK1.out; first | omega | exact Nat.le_refl _⟩, ⟨by repeat (first | (with_reducible first | exact HB.out | apply below_alloc | apply pw_below_drewN | apply below_drew1) | exact HB.out)⟩⟩
            case rest =>
              clear HC12
              try clear c1
              try clear p1
              try clear q1
              try clear hx1
              try clear hcv1
              try clear c2
              try clear c2b0
              try clear c2b1
              try clear p2
              try clear c4
              try clear c5
              try clear c5b0
              try clear c6
              try clear c6b0
              try clear p6
              try clear c7
              try clear c7b0
              try clear c8
              try clear c8b0
              try clear c8b1
              try clear c8b2
              try clear hcv11
              try clear c12
              try clear p12
              try clear q12
              try clear hx12
              try clear c13
              try clear c13b0
              try clear p13
              try clear q13
              try clear hx13
              try clear c14
              try clear c14b0
              try clear c14b1
              try clear c14b2
              try clear hx129_0
              try clear hx130_0
              try clear p129
              try clear p130
              try clear p2
              try clear q129
              try clear q130
              obtain ⟨kq, x4_11, rfl, HA, HJ11, HB⟩ := hcut
              cases kq with
              | zero => exact absurd HA.out (by simp [endonymref11_Encode.j1])
              | succ kj11 =>
                have H := HA.out
                clear HA
                simp only [endonymref11_Encode.j1] at H
                have H' := Aside0.mk H
                clear H
                go_wp2
                go_loopg [4, 5, 7, 8, 9, 10] kj11 (fun kq v4 v5 v7 v8 v9 v10 w' => ∃ (x4_3 : ByteArray) (x5_3 : Int) (x7_3 : Int) (x8_3 : Int) (x9_3 : Int) (x10_3 : Bool), v4 = .string x4_3 ∧ v5 = .int .i64 x5_3 ∧ v7 = .int .i64 x7_3 ∧ v8 = .int .i64 x8_3 ∧ v9 = .int .i64 x9_3 ∧ v10 = .bool x10_3 ∧ Aside0 (endonymref11_Encode.l1 kq l0 x4_3 x5_3 x7_3 x8_3 x9_3 x10_3 = some (r1, r2)) ∧ Aside0 (kq ≤ kj11) ∧ Aside0 (Below w.heap.size w w'))
                case atStart => exact ⟨(x4_11), (x5_1), (128), (0), (72), (true), (by first | rfl | (simp; done) | (simp [*]; done)), (by first | rfl | (simp; done) | (simp [*]; done)), (by first | rfl | (simp; done) | (simp [*]; done)), (by first | rfl | (simp; done) | (simp [*]; done)), (by first | rfl | (simp; done) | (simp [*]; done)), (by first | rfl | (simp; done) | (simp [*]; done)), H', ⟨Nat.le_refl _⟩, ⟨by repeat (first | (with_reducible first | exact HB.out | apply below_alloc | apply pw_below_drewN | apply below_drew1) | exact HB.out)⟩⟩
                case round =>
                  clear H'
                  try clear c1
                  try clear p1
                  try clear q1
                  try clear hx1
                  try clear hcv1
                  try clear c2
                  try clear c2b0
                  try clear c2b1
                  try clear p2
                  try clear c4
                  try clear c5
                  try clear c5b0
                  try clear c6
                  try clear c6b0
                  try clear p6
                  try clear c7
                  try clear c7b0
                  try clear c8
                  try clear c8b0
                  try clear c8b1
                  try clear c8b2
                  try clear hcv11
                  try clear c12
                  try clear p12
                  try clear q12
                  try clear hx12
                  try clear c13
                  try clear c13b0
                  try clear p13
                  try clear q13
                  try clear hx13
                  try clear c14
                  try clear c14b0
                  try clear c14b1
                  try clear c14b2
                  try clear hx129_0
                  try clear hx130_0
                  try clear p1
                  try clear p12
                  try clear p129
                  try clear p13
                  try clear p130
                  try clear p2
                  try clear p6
                  try clear q1
                  try clear q12
                  try clear q129
                  try clear q13
                  try clear q130
                  obtain ⟨x4_3, x5_3, x7_3, x8_3, x9_3, x10_3, rfl, rfl, rfl, rfl, rfl, rfl, HA, HK3, HB⟩ := hrel
                  cases gk with
                  | zero => exact absurd HA.out (by simp [endonymref11_Encode.l1])
                  | succ k3 =>
                    have H := HA.out
                    clear HA
                    simp only [endonymref11_Encode.l1] at H
                    by_cases c15 : x5_3 < (l0.length : Int)
                    · rw [if_pos c15] at H
                      have c15b0 : decide (x5_3 < (l0.length : Int)) = true := decide_eq_true c15
                      clear c15
                      have H' := Aside0.mk H
                      clear H
                      go_wp2
                      go_loopg [11, 12] k3 (fun kq v11 v12 w' => ∃ (x11_4 : Int) (x12_4 : Int), v11 = .int .i64 x11_4 ∧ v12 = .int .i64 x12_4 ∧ Aside0 (endonymref11_Encode.l2 kq l0 x4_3 x5_3 x7_3 x8_3 x9_3 x10_3 x11_4 x12_4 = some (r1, r2)) ∧ Aside0 (kq ≤ k3) ∧ Aside0 (Below w.heap.size w w'))
                      case atStart => exact ⟨(1114112), (0), (by first | rfl | (simp; done) | (simp [*]; done)), (by first | rfl | (simp; done) | (simp [*]; done)), H', ⟨Nat.le_refl _⟩, ⟨by repeat (first | (with_reducible first | exact HB.out | apply below_alloc | apply pw_below_drewN | apply below_drew1) | exact HB.out)⟩⟩
                      case round =>
                        clear H'
                        try clear c1
                        try clear p1
                        try clear q1
                        try clear hx1
                        try clear hcv1
                        try clear c2
                        try clear c2b0
                        try clear c2b1
                        try clear p2
                        try clear c4
                        try clear c5
                        try clear c5b0
                        try clear c6
                        try clear c6b0
                        try clear p6
                        try clear c7
                        try clear c7b0
                        try clear c8
                        try clear c8b0
                        try clear c8b1
                        try clear c8b2
                        try clear hcv11
                        try clear c12
                        try clear p12
                        try clear q12
                        try clear hx12
                        try clear c13
                        try clear c13b0
                        try clear p13
                        try clear q13
                        try clear hx13
                        try clear c14
                        try clear c14b0
                        try clear c14b1
                        try clear c14b2
                        try clear c15
                        try clear c15b0
                        try clear hx129_0
                        try clear hx130_0
                        try clear p1
                        try clear p12
                        try clear p129
                        try clear p13
                        try clear p130
                        try clear p2
                        try clear p6
                        try clear q1
                        try clear q12
                        try clear q129
                        try clear q13
                        try clear q130
                        obtain ⟨x11_4, x12_4, rfl, rfl, HA, HK4, HB⟩ := hrel
                        cases gk with
                        | zero => exact absurd HA.out (by simp [endonymref11_Encode.l2])
                        | succ k4 =>
                          have H := HA.out
                          clear HA
                          simp only [endonymref11_Encode.l2] at H
                          by_cases c16 : x12_4 < (l0.length : Int)
                          · rw [if_pos c16] at H
                            have c16b0 : decide (x12_4 < (l0.length : Int)) = true := decide_eq_true c16
                            clear c16
                            by_cases c17 : 0 ≤ x12_4
                            · rw [if_pos c17] at H
                              have c17b0 : decide (0 ≤ x12_4) = true := decide_eq_true c17
                              clear c17
                              by_cases c18 : (wrap64 (rd l0 x12_4)) ≥ x7_3
                              · rw [if_pos c18] at H
                                have c18b0 : decide (x7_3 ≤ (wrap64 (rd l0 x12_4))) = true := decide_eq_true c18
                                clear c18
                                obtain ⟨ji19, hji19⟩ : ∃ j_ : Int, (mn x11_4 (wrap64 (rd l0 x12_4))) = j_ := ⟨_, rfl⟩
                                replace H : (endonymref11_Encode.l2 k4 l0 x4_3 x5_3 x7_3 x8_3 x9_3 x10_3 ji19 (wrap64 (x12_4 + 1))) = some (r1, r2) := by first | (rw [hji19] at H; exact H) | (simp only [hji19] at H ⊢; exact H)
                                have hji19_ : (if (wrap64 (rd l0 x12_4)) < x11_4 then (wrap64 (rd l0 x12_4)) else x11_4) = ji19 := hji19
                                have H' := Aside0.mk H
                                clear H
                                have p134 : 0 ≤ (x12_4 : Int) := of_decide_eq_true (by first | (with_reducible assumption) | assumption)
                                have q134 : x12_4 < (l0.length : Int) := of_decide_eq_true (by first | (with_reducible assumption) | assumption)
                                obtain ⟨ad134, e134, hx134_0⟩ := Kd.at_int HR0.out x12_4 p134 q134
                                cases e134
                                replace hx134_0 := (HB.out.cell (World.block_lt_of_cell? w _ hx134_0)).trans hx134_0
                                replace p134 := eq_true p134
                                replace q134 := eq_true q134
                                have p135 : 0 ≤ (x12_4 : Int) := of_decide_eq_true (by first | (with_reducible assumption) | assumption)
                                have q135 : x12_4 < (l0.length : Int) := of_decide_eq_true (by first | (with_reducible assumption) | assumption)
                                obtain ⟨ad135, e135, hx135_0⟩ := Kd.at_int HR0.out x12_4 p135 q135
                                obtain rfl : ad134 = ad135 := (by injection e135)
                                replace hx135_0 := (HB.out.cell (World.block_lt_of_cell? w _ hx135_0)).trans hx135_0
                                replace p135 := eq_true p135
                                replace q135 := eq_true q135
                                go_wp2
                                go_roundg k4
                                case measure => have := HK1.out; have := HJ11.out; have := HK3.out; have := HK4.out; omega
                                case rel => exact ⟨(ji19), (wrap64 (x12_4 + 1)), (by first | rfl | (simp; done) | (simp only [← hji19] <;> (first | rfl | simp)) | (simp [*]; done)), (by first | rfl | (simp; done) | (simp [*]; done)), H', ⟨by have := HK1.out; have := HJ11.out; have := HK3.out; have := HK4.out; omega⟩, ⟨by repeat (first | (with_reducible first | exact HB.out | apply below_alloc | apply pw_below_drewN | apply below_drew1) | exact HB.out)⟩⟩
                              · rw [if_neg c18] at H
                                have c18b0 : decide (x7_3 ≤ (wrap64 (rd l0 x12_4))) = false := decide_eq_false c18
                                clear c18
                                have H' := Aside0.mk H
                                clear H
                                have p134 : 0 ≤ (x12_4 : Int) := of_decide_eq_true (by first | (with_reducible assumption) | assumption)
                                have q134 : x12_4 < (l0.length : Int) := of_decide_eq_true (by first | (with_reducible assumption) | assumption)
                                obtain ⟨ad134, e134, hx134_0⟩ := Kd.at_int HR0.out x12_4 p134 q134
                                cases e134
                                replace hx134_0 := (HB.out.cell (World.block_lt_of_cell? w _ hx134_0)).trans hx134_0
                                replace p134 := eq_true p134
                                replace q134 := eq_true q134
                                go_wp2
                                go_roundg k4
                                case measure => have := HK1.out; have := HJ11.out; have := HK3.out; have := HK4.out; omega
                                case rel => exact ⟨(x11_4), (wrap64 (x12_4 + 1)), (by first | rfl | (simp; done) | (simp [*]; done)), (by first | rfl | (simp; done) | (simp [*]; done)), H', ⟨by have := HK1.out; have := HJ11.out; have := HK3.out; have := HK4.out; omega⟩, ⟨by repeat (first | (with_reducible first | exact HB.out | apply below_alloc | apply pw_below_drewN | apply below_drew1) | exact HB.out)⟩⟩
                            · rw [if_neg c17] at H
                              exact absurd H (by simp)
                          · rw [if_neg c16] at H
                            have c16b0 : decide (x12_4 < (l0.length : Int)) = false := decide_eq_false c16
                            clear c16
                            have H' := Aside0.mk H
                            clear H
                            go_wp2
                            go_loopg [4, 5, 8, 9, 10, 13] k4 (fun kq v4 v5 v8 v9 v10 v13 w' => ∃ (x4_5 : ByteArray) (x5_5 : Int) (x8_5 : Int) (x9_5 : Int) (x10_5 : Bool) (x13_5 : Int), v4 = .string x4_5 ∧ v5 = .int .i64 x5_5 ∧ v8 = .int .i64 x8_5 ∧ v9 = .int .i64 x9_5 ∧ v10 = .bool x10_5 ∧ v13 = .int .i64 x13_5 ∧ Aside0 (endonymref11_Encode.l3 kq l0 x4_5 x5_5 x11_4 x8_5 x9_5 x10_5 x13_5 = some (r1, r2)) ∧ Aside0 (kq ≤ k4) ∧ Aside0 (Below w.heap.size w w'))
                            case atStart => exact ⟨(x4_3), (x5_3), (wrap64 (x8_3 + (wrap64 ((wrap64 (x11_4 - x7_3)) * (wrap64 (x5_3 + 1)))))), (x9_3), (x10_3), (0), (by first | rfl | (simp; done) | (simp [*]; done)), (by first | rfl | (simp; done) | (simp [*]; done)), (by first | rfl | (simp; done) | (simp [*]; done)), (by first | rfl | (simp; done) | (simp [*]; done)), (by first | rfl | (simp; done) | (simp [*]; done)), (by first | rfl | (simp; done) | (simp [*]; done)), H', ⟨Nat.le_refl _⟩, ⟨by repeat (first | (with_reducible first | exact HB.out | apply below_alloc | apply pw_below_drewN | apply below_drew1) | exact HB.out)⟩⟩
                            case round =>
                              clear H'
                              try clear c1
                              try clear p1
                              try clear q1
                              try clear hx1
                              try clear hcv1
                              try clear c2
                              try clear c2b0
                              try clear c2b1
                              try clear p2
                              try clear c4
                              try clear c5
                              try clear c5b0
                              try clear c6
                              try clear c6b0
                              try clear p6
                              try clear c7
                              try clear c7b0
                              try clear c8
                              try clear c8b0
                              try clear c8b1
                              try clear c8b2
                              try clear hcv11
                              try clear c12
                              try clear p12
                              try clear q12
                              try clear hx12
                              try clear c13
                              try clear c13b0
                              try clear p13
                              try clear q13
                              try clear hx13
                              try clear c14
                              try clear c14b0
                              try clear c14b1
                              try clear c14b2
                              try clear c15
                              try clear c15b0
                              try clear c16
                              try clear c16b0
                              try clear c17
                              try clear c17b0
                              try clear c18
                              try clear c18b0
                              try clear hx129_0
                              try clear hx130_0
                              try clear hx134_0
                              try clear hx135_0
                              try clear p1
                              try clear p12
                              try clear p129
                              try clear p13
                              try clear p130
                              try clear p134
                              try clear p135
                              try clear p2
                              try clear p6
                              try clear q1
                              try clear q12
                              try clear q129
                              try clear q13
                              try clear q130
                              try clear q134
                              try clear q135
                              obtain ⟨x4_5, x5_5, x8_5, x9_5, x10_5, x13_5, rfl, rfl, rfl, rfl, rfl, rfl, HA, HK5, HB⟩ := hrel
                              cases gk with
                              | zero => exact absurd HA.out (by simp [endonymref11_Encode.l3])
                              | succ k5 =>
                                have H := HA.out
                                clear HA
                                simp only [endonymref11_Encode.l3] at H
                                by_cases c20 : x13_5 < (l0.length : Int)
                                · rw [if_pos c20] at H
                                  have c20b0 : decide (x13_5 < (l0.length : Int)) = true := decide_eq_true c20
                                  clear c20
                                  by_cases c21 : 0 ≤ x13_5
                                  · rw [if_pos c21] at H
                                    have c21b0 : decide (0 ≤ x13_5) = true := decide_eq_true c21
                                    clear c21
                                    have HC22 := Aside0.mk H
                                    clear H
                                    have p136 : 0 ≤ (x13_5 : Int) := of_decide_eq_true (by first | (with_reducible assumption) | assumption)
                                    have q136 : x13_5 < (l0.length : Int) := of_decide_eq_true (by first | (with_reducible assumption) | assumption)
                                    obtain ⟨ad136, e136, hx136_0⟩ := Kd.at_int HR0.out x13_5 p136 q136
                                    cases e136
                                    replace hx136_0 := (HB.out.cell (World.block_lt_of_cell? w _ hx136_0)).trans hx136_0
                                    replace p136 := eq_true p136
                                    replace q136 := eq_true q136
                                    go_upto_if 91 with (fail)
                                    go_cut [8] (fun v8 wc => ∃ (kq : Nat) (x8_21 : Int), v8 = .int .i64 x8_21 ∧ Aside0 (endonymref11_Encode.j5 kq l0 x4_5 x5_5 x11_4 x8_21 x9_5 x10_5 x13_5 = some (r1, r2)) ∧ Aside0 (kq ≤ k5) ∧ Aside0 (Below w.heap.size w wc))
                                    case first =>
                                      have H := HC22.out
                                      clear HC22
                                      by_cases c23 : (wrap64 (rd l0 x13_5)) < x11_4
                                      · rw [if_pos c23] at H
                                        have c23b0 : decide ((wrap64 (rd l0 x13_5)) < x11_4) = true := decide_eq_true c23
                                        clear c23
                                        (first | rw [c23b0] | (simp only [i64_w, i32_w]; rw [c23b0]) | skip)
                                        have H' := Aside0.mk H
                                        clear H
                                        go_wp2
                                        go_meet
                                        case rel => exact ⟨_, (wrap64 (x8_5 + 1)), (by first | rfl | (simp; done) | (simp [*]; done)), H', ⟨by have := HK1.out; have := HJ11.out; have := HK3.out; have := HK4.out; have := HK5.out; first | omega | exact Nat.le_refl _⟩, ⟨by repeat (first | (with_reducible first | exact HB.out | apply below_alloc | apply pw_below_drewN | apply below_drew1) | exact HB.out)⟩⟩
                                      · rw [if_neg c23] at H
                                        have c23b0 : decide ((wrap64 (rd l0 x13_5)) < x11_4) = false := decide_eq_false c23
                                        clear c23
                                        (first | rw [c23b0] | (simp only [i64_w, i32_w]; rw [c23b0]) | skip)
                                        have H' := Aside0.mk H
                                        clear H
                                        go_wp2
                                        go_meet
                                        case rel => exact ⟨_, (x8_5), (by first | rfl | (simp; done) | (simp [*]; done)), H', ⟨by have := HK1.out; have := HJ11.out; have := HK3.out; have := HK4.out; have := HK5.out; first | omega | exact Nat.le_refl _⟩, ⟨by repeat (first | (with_reducible first | exact HB.out | apply below_alloc | apply pw_below_drewN | apply below_drew1) | exact HB.out)⟩⟩
                                    case rest =>
                                      clear HC22
                                      try clear c1
                                      try clear p1
                                      try clear q1
                                      try clear hx1
                                      try clear hcv1
                                      try clear c2
                                      try clear c2b0
                                      try clear c2b1
                                      try clear p2
                                      try clear c4
                                      try clear c5
                                      try clear c5b0
                                      try clear c6
                                      try clear c6b0
                                      try clear p6
                                      try clear c7
                                      try clear c7b0
                                      try clear c8
                                      try clear c8b0
                                      try clear c8b1
                                      try clear c8b2
                                      try clear hcv11
                                      try clear c12
                                      try clear p12
                                      try clear q12
                                      try clear hx12
                                      try clear c13
                                      try clear c13b0
                                      try clear p13
                                      try clear q13
                                      try clear hx13
                                      try clear c14
                                      try clear c14b0
                                      try clear c14b1
                                      try clear c14b2
                                      try clear c15
                                      try clear c15b0
                                      try clear c16
                                      try clear c16b0
                                      try clear c17
                                      try clear c17b0
                                      try clear c18
                                      try clear c18b0
                                      try clear c20
                                      try clear c20b0
                                      try clear c21
                                      try clear c21b0
                                      try clear c23
                                      try clear c23b0
                                      try clear hx129_0
                                      try clear hx130_0
                                      try clear hx134_0
                                      try clear hx135_0
                                      try clear hx136_0
                                      try clear p1
                                      try clear p12
                                      try clear p129
                                      try clear p13
                                      try clear p130
                                      try clear p134
                                      try clear p135
                                      try clear p136
                                      try clear p2
                                      try clear p6
                                      try clear q1
                                      try clear q12
                                      try clear q129
                                      try clear q13
                                      try clear q130
                                      try clear q134
                                      try clear q135
                                      try clear q136
                                      obtain ⟨kq, x8_21, rfl, HA, HJ21, HB⟩ := hcut
                                      cases kq with
                                      | zero => exact absurd HA.out (by simp [endonymref11_Encode.j5])
                                      | succ kj21 =>
                                        have H := HA.out
                                        clear HA
                                        simp only [endonymref11_Encode.j5] at H
                                        by_cases c24 : 0 ≤ x13_5
                                        · rw [if_pos c24] at H
                                          have c24b0 : decide (0 ≤ x13_5) = true := decide_eq_true c24
                                          clear c24
                                          by_cases c25 : x13_5 < (l0.length : Int)
                                          · rw [if_pos c25] at H
                                            have c25b0 : decide (x13_5 < (l0.length : Int)) = true := decide_eq_true c25
                                            clear c25
                                            by_cases c26 : (wrap64 (rd l0 x13_5)) = x11_4
                                            · rw [if_pos c26] at H
                                              have c26b0 : ((wrap64 (rd l0 x13_5)) == x11_4) = true := beq_iff_eq.mpr c26
                                              have c26b1 : ((wrap64 (rd l0 x13_5)) != x11_4) = false := bne_eq_false_iff_eq.mpr c26
                                              clear c26
                                              by_cases c27 : x8_21 > 2147483647
                                              · rw [if_pos c27] at H
                                                have c27b0 : decide (2147483647 < x8_21) = true := decide_eq_true c27
                                                clear c27
                                                simp only [Option.some.injEq, Prod.mk.injEq] at H
                                                obtain ⟨rfl, rfl⟩ := H
                                                have p137 : 0 ≤ (x13_5 : Int) := of_decide_eq_true (by first | (with_reducible assumption) | assumption)
                                                have q137 : x13_5 < (l0.length : Int) := of_decide_eq_true (by first | (with_reducible assumption) | assumption)
                                                obtain ⟨ad137, e137, hx137_0⟩ := Kd.at_int HR0.out x13_5 p137 q137
                                                obtain rfl : ad136 = ad137 := (by injection e137)
                                                replace hx137_0 := (HB.out.cell (World.block_lt_of_cell? w _ hx137_0)).trans hx137_0
                                                replace p137 := eq_true p137
                                                replace q137 := eq_true q137
                                                go_wp2
                                                go_ret2
                                                exact ⟨by first | rfl | (simp [errW_none, errW_some] <;> rfl) | (simp [*, errW_none, errW_some] <;> rfl), by repeat (first | (with_reducible first | exact HB.out | apply below_alloc | apply pw_below_drewN | apply below_drew1) | exact HB.out)⟩
                                              · rw [if_neg c27] at H
                                                have c27b0 : decide (2147483647 < x8_21) = false := decide_eq_false c27
                                                clear c27
                                                replace H := Option.bind_eq_some_iff.mp H
                                                obtain ⟨t138, A280, H⟩ := H
                                                replace H : (if x4_5.size + t138.size ≤ 9223372036854775807 then ((endonymref11_Adapt.f kj21 x8_21 (wrap64 (x5_5 + 1)) x10_5).bind fun t139 => (endonymref11_Encode.l3 kj21 l0 (x4_5 ++ t138) (wrap64 (x5_5 + 1)) x11_4 0 t139 false (wrap64 (x13_5 + 1)))) else (none)) = some (r1, r2) := H
                                                have A28 := Aside0.mk A280
                                                clear A280
                                                by_cases c29 : x4_5.size + t138.size ≤ 9223372036854775807
                                                · rw [if_pos c29] at H
                                                  have c29b0 := eq_true c29
                                                  have c29b1 : decide (x4_5.size + t138.size ≤ 9223372036854775807) = true := decide_eq_true c29
                                                  try have c29b2 : (9223372036854775807 < x4_5.size + t138.size) = False := eq_false (Nat.not_lt.2 c29)
                                                  replace H := Option.bind_eq_some_iff.mp H
                                                  obtain ⟨t139, A300, H⟩ := H
                                                  replace H : (endonymref11_Encode.l3 kj21 l0 (x4_5 ++ t138) (wrap64 (x5_5 + 1)) x11_4 0 t139 false (wrap64 (x13_5 + 1))) = some (r1, r2) := H
                                                  have A30 := Aside0.mk A300
                                                  clear A300
                                                  have H' := Aside0.mk H
                                                  clear H
                                                  have p137 : 0 ≤ (x13_5 : Int) := of_decide_eq_true (by first | (with_reducible assumption) | assumption)
                                                  have q137 : x13_5 < (l0.length : Int) := of_decide_eq_true (by first | (with_reducible assumption) | assumption)
                                                  obtain ⟨ad137, e137, hx137_0⟩ := Kd.at_int HR0.out x13_5 p137 q137
                                                  obtain rfl : ad136 = ad137 := (by injection e137)
                                                  replace hx137_0 := (HB.out.cell (World.block_lt_of_cell? w _ hx137_0)).trans hx137_0
                                                  replace p137 := eq_true p137
                                                  replace q137 := eq_true q137
                                                  go_wp2_with (first | ((with_reducible refine gate_callee (f := 34) rfl ?_); refine goesL_ (some 106) rfl rfl Try.func34 (by kernel_rfl) rfl #[.int .i64 x8_21, .int .i64 x9_5] rfl (by (try simp only [List.map_toArray, List.map_cons, List.map_nil]); first | done | rfl | (simp only [List.length_drop, List.length_take]; rfl)) ?_; (with_reducible refine (endonymref11_number.calls kj21 x8_21 x9_5 t138 _ A28.out).mono ?_); rintro e w31 ⟨rfl, hb⟩; refine ⟨_, rfl, ?_⟩; have n0_ := Aside0.mk (below_step (by repeat (first | (with_reducible first | exact HB.out | apply below_alloc | apply pw_below_drewN | apply below_drew1) | exact HB.out)) hb); clear HB; have HB := n0_; clear n0_; (try clear hb); (try clear hb2); (try clear hk); (try clear hi)) | ((with_reducible refine gate_callee (f := 18) rfl ?_); refine goesL_ (some 113) rfl rfl Try.func18 (by kernel_rfl) rfl #[.int .i64 x8_21, .int .i64 (wrap64 (x5_5 + 1)), .bool x10_5] rfl (by (try simp only [List.map_toArray, List.map_cons, List.map_nil]); first | done | rfl | (simp only [List.length_drop, List.length_take]; rfl)) ?_; (with_reducible refine (endonymref11_Adapt.calls kj21 x8_21 (wrap64 (x5_5 + 1)) x10_5 t139 _ A30.out).mono ?_); rintro e w32 ⟨rfl, hb⟩; refine ⟨_, rfl, ?_⟩; have n0_ := Aside0.mk (below_step (by repeat (first | (with_reducible first | exact HB.out | apply below_alloc | apply pw_below_drewN | apply below_drew1) | exact HB.out)) hb); clear HB; have HB := n0_; clear n0_; (try clear hb); (try clear hb2); (try clear hk); (try clear hi)))
                                                  go_roundg kj21
                                                  case measure => have := HK1.out; have := HJ11.out; have := HK3.out; have := HK4.out; have := HK5.out; have := HJ21.out; omega
                                                  case rel => exact ⟨(x4_5 ++ t138), (wrap64 (x5_5 + 1)), (0), (t139), (false), (wrap64 (x13_5 + 1)), (by first | rfl | (simp; done) | (simp [*]; done)), (by first | rfl | (simp; done) | (simp [*]; done)), (by first | rfl | (simp; done) | (simp [*]; done)), (by first | rfl | (simp; done) | (simp [*]; done)), (by first | rfl | (simp; done) | (simp [*]; done)), (by first | rfl | (simp; done) | (simp [*]; done)), H', ⟨by have := HK1.out; have := HJ11.out; have := HK3.out; have := HK4.out; have := HK5.out; have := HJ21.out; omega⟩, ⟨by repeat (first | (with_reducible first | exact HB.out | apply below_alloc | apply pw_below_drewN | apply below_drew1) | exact HB.out)⟩⟩
                                                · rw [if_neg c29] at H
                                                  exact absurd H (by simp)
                                            · rw [if_neg c26] at H
                                              have c26b0 : ((wrap64 (rd l0 x13_5)) == x11_4) = false := beq_eq_false_iff_ne.mpr c26
                                              have c26b1 : ((wrap64 (rd l0 x13_5)) != x11_4) = true := bne_iff_ne.mpr c26
                                              have H' := Aside0.mk H
                                              clear H
                                              have p137 : 0 ≤ (x13_5 : Int) := of_decide_eq_true (by first | (with_reducible assumption) | assumption)
                                              have q137 : x13_5 < (l0.length : Int) := of_decide_eq_true (by first | (with_reducible assumption) | assumption)
                                              obtain ⟨ad137, e137, hx137_0⟩ := Kd.at_int HR0.out x13_5 p137 q137
                                              obtain rfl : ad136 = ad137 := (by injection e137)
                                              replace hx137_0 := (HB.out.cell (World.block_lt_of_cell? w _ hx137_0)).trans hx137_0
                                              replace p137 := eq_true p137
                                              replace q137 := eq_true q137
                                              go_wp2
                                              go_roundg kj21
                                              case measure => have := HK1.out; have := HJ11.out; have := HK3.out; have := HK4.out; have := HK5.out; have := HJ21.out; omega
                                              case rel => exact ⟨(x4_5), (x5_5), (x8_21), (x9_5), (x10_5), (wrap64 (x13_5 + 1)), (by first | rfl | (simp; done) | (simp [*]; done)), (by first | rfl | (simp; done) | (simp [*]; done)), (by first | rfl | (simp; done) | (simp [*]; done)), (by first | rfl | (simp; done) | (simp [*]; done)), (by first | rfl | (simp; done) | (simp [*]; done)), (by first | rfl | (simp; done) | (simp [*]; done)), H', ⟨by have := HK1.out; have := HJ11.out; have := HK3.out; have := HK4.out; have := HK5.out; have := HJ21.out; omega⟩, ⟨by repeat (first | (with_reducible first | exact HB.out | apply below_alloc | apply pw_below_drewN | apply below_drew1) | exact HB.out)⟩⟩
                                          · rw [if_neg c25] at H
                                            exact absurd H (by simp)
                                        · rw [if_neg c24] at H
                                          exact absurd H (by simp)
                                  · rw [if_neg c21] at H
                                    exact absurd H (by simp)
                                · rw [if_neg c20] at H
                                  have c20b0 : decide (x13_5 < (l0.length : Int)) = false := decide_eq_false c20
                                  clear c20
                                  have H' := Aside0.mk H
                                  clear H
                                  go_wp2
                                  go_roundg k5
                                  case measure => have := HK1.out; have := HJ11.out; have := HK3.out; have := HK4.out; have := HK5.out; omega
                                  case rel => exact ⟨(x4_5), (x5_5), (wrap64 (x11_4 + 1)), (wrap64 (x8_5 + 1)), (x9_5), (x10_5), (by first | rfl | (simp; done) | (simp [*]; done)), (by first | rfl | (simp; done) | (simp [*]; done)), (by first | rfl | (simp; done) | (simp [*]; done)), (by first | rfl | (simp; done) | (simp [*]; done)), (by first | rfl | (simp; done) | (simp [*]; done)), (by first | rfl | (simp; done) | (simp [*]; done)), H', ⟨by have := HK1.out; have := HJ11.out; have := HK3.out; have := HK4.out; have := HK5.out; omega⟩, ⟨by repeat (first | (with_reducible first | exact HB.out | apply below_alloc | apply pw_below_drewN | apply below_drew1) | exact HB.out)⟩⟩
                    · rw [if_neg c15] at H
                      have c15b0 : decide (x5_3 < (l0.length : Int)) = false := decide_eq_false c15
                      clear c15
                      simp only [Option.some.injEq, Prod.mk.injEq] at H
                      obtain ⟨rfl, rfl⟩ := H
                      go_wp2
                      go_ret2
                      exact ⟨by first | rfl | (simp [errW_none, errW_some] <;> rfl) | (simp [*, errW_none, errW_some] <;> rfl), by repeat (first | (with_reducible first | exact HB.out | apply below_alloc | apply pw_below_drewN | apply below_drew1) | exact HB.out)⟩
    · replace c4 := Bool.eq_false_iff.mpr c4
      subst c4
      have H1 : (some ((⟨#[]⟩ : ByteArray), 31)) = some (r1, r2) := by rw [if_neg (show ¬ (false = true) by decide)] at H; exact H
      clear H
      have H := H1
      clear H1
      simp only [Option.some.injEq, Prod.mk.injEq] at H
      obtain ⟨rfl, rfl⟩ := H
      go_enter Try.func12, Try.ntmps12
      go_wp2_with (first | ((with_reducible refine gate_callee (f := 20) rfl ?_); refine goesL_ (some 18) rfl rfl Try.func20 (by kernel_rfl) rfl #[.slice A0 l0.length c0] rfl (by (try simp only [List.map_toArray, List.map_cons, List.map_nil]); first | done | rfl | (simp only [List.length_drop, List.length_take]; rfl)) ?_; (with_reducible refine (endonymref3_Sound.calls k _ _ l0 false _ ?side1 ?side2 A3.out).mono ?_); (case side1 => repeat (first | exact HR0.out | (with_reducible refine Kd.C_alloc ?_ _) | (with_reducible refine Kd.C_drewN ?_ _) | (with_reducible refine Kd.C_drew ?_))); (case side2 => exact HC0.out); rintro e w' ⟨rfl, ⟨nd, rfl⟩⟩; refine ⟨_, rfl, ?_⟩))
      go_ret2
      exact ⟨by first | rfl | (simp [errW_none, errW_some] <;> rfl) | (simp [*, errW_none, errW_some] <;> rfl), by repeat (first | (with_reducible first | exact HB.out | apply below_alloc | apply pw_below_drewN | apply below_drew1) | exact HB.out)⟩

end Go.Proofs.Yticocjpfhllelaa.XP
