/- The rules' closures, and what rules hands back, walked. -/
import Derived.Test.YthneeainigdmhaaGreatPBidi1
import Derived.Test.YthneeainigdmhaaGreatK35
set_option linter.unusedVariables false
set_option linter.unusedSimpArgs false
namespace Go.Proofs.YthneeainigdmhaaGreat.M
open Go.RowKit
set_option maxHeartbeats 8000000
set_option maxRecDepth 100000
attribute [-go_sem] loadCellsFrom

theorem ints_lit (w : World) (l : List Int) (t : TypeId) : Ints .i64 (w.alloc (.cells (l.map (Value.int .i64)).toArray t)) (some ⟨w.heap.size, 0, none⟩) l := fun i v hv => by
  refine ⟨_, rfl, ?_⟩
  rw [add_zero_none', cell_of_row _ _ i _ _ (0, 0) (heap_alloc_new w _)]
  simpa using hv
theorem rule1_calls (b : Nat) (f : Nat → Int) (w : World) (h : H11 w b f) (r : Bool) (hr : (!noneD f [0, 4, 5, 6, 7, 8, 9, 10]) = r) :
    Calls Tryz.prog 131 #[.pointer (some ⟨b, 0, none⟩)] w fun e w' => e = .returned (.bool r) ∧ Up w w' := by
  have hld := h11_load h
  obtain ⟨q, hq⟩ : ∃ q, noneD f [0, 4, 5, 6, 7, 8, 9, 10] = q := ⟨_, rfl⟩
  rw [hq] at hr
  have HQ := Aside0.mk hq
  subst hr
  clear hq h
  have HL8 : Aside0 (Ints .i64 (w.alloc (.cells #[.int .i64 0, .int .i64 4, .int .i64 5, .int .i64 6, .int .i64 7, .int .i64 8, .int .i64 9, .int .i64 10] 3)) (some ⟨w.heap.size, 0, none⟩) [0, 4, 5, 6, 7, 8, 9, 10]) := ⟨ints_lit w [0, 4, 5, 6, 7, 8, 9, 10] _⟩
  go_enter Tryz.func131, Tryz.ntmps131
  go_wp2_with (first | (go_at_call 132; (with_reducible refine (only_lit f ⟨w.heap.size, 0, none⟩ 8 8 [0, 4, 5, 6, 7, 8, 9, 10] _ HL8.out (by decide) rfl (by decide) q HQ.out).mono ?_); rintro e w1 ⟨rfl, hup1⟩))
  go_ret
  exact ⟨rfl, up_trans (up_alloc (up_refl _) _) hup1⟩
theorem rule4_calls (b : Nat) (f : Nat → Int) (w : World) (h : H11 w b f) (r : Bool) (hr : (!noneD f [1, 2, 3, 4, 5, 6, 7, 8, 9, 10]) = r) :
    Calls Tryz.prog 135 #[.pointer (some ⟨b, 0, none⟩)] w fun e w' => e = .returned (.bool r) ∧ Up w w' := by
  have hld := h11_load h
  obtain ⟨q, hq⟩ : ∃ q, noneD f [1, 2, 3, 4, 5, 6, 7, 8, 9, 10] = q := ⟨_, rfl⟩
  rw [hq] at hr
  have HQ := Aside0.mk hq
  subst hr
  clear hq h
  have HL8 : Aside0 (Ints .i64 (w.alloc (.cells #[.int .i64 1, .int .i64 2, .int .i64 3, .int .i64 4, .int .i64 5, .int .i64 6, .int .i64 7, .int .i64 8, .int .i64 9, .int .i64 10] 3)) (some ⟨w.heap.size, 0, none⟩) [1, 2, 3, 4, 5, 6, 7, 8, 9, 10]) := ⟨ints_lit w [1, 2, 3, 4, 5, 6, 7, 8, 9, 10] _⟩
  go_enter Tryz.func135, Tryz.ntmps135
  go_wp2_with (first | (go_at_call 132; (with_reducible refine (only_lit f ⟨w.heap.size, 0, none⟩ 10 10 [1, 2, 3, 4, 5, 6, 7, 8, 9, 10] _ HL8.out (by decide) rfl (by decide) q HQ.out).mono ?_); rintro e w1 ⟨rfl, hup1⟩))
  go_ret
  exact ⟨rfl, up_trans (up_alloc (up_refl _) _) hup1⟩
theorem rule3_calls (w : World) : Calls Tryz.prog 134 #[] w fun e w' => e = .returned (.bool true) ∧ Up w w' := by
  go_enter Tryz.func134, Tryz.ntmps134
  go_wp2
  go_ret
  exact ⟨rfl, up_refl _⟩
theorem rule2_calls (b : Nat) (v : Int) (w : World) (h : w.cell? ⟨b, 0, none⟩ = some (.int .i64 v)) (r : Bool) (hr : (!endL v) = r) :
    Calls Tryz.prog 133 #[.pointer (some ⟨b, 0, none⟩)] w fun e w' => e = .returned (.bool r) ∧ Up w w' := by
  have hr2 : (v != 0 && v != 4) = r := by rw [← hr]; simp [endL, bne]
  subst hr2
  clear hr
  cases c0 : (v != 0) <;> cases c4 : (v != 4) <;> (go_enter Tryz.func133, Tryz.ntmps133; go_wp2; go_ret; first | exact ⟨rfl, up_refl _⟩ | exact ⟨by simp [c0, c4], up_refl _⟩)
theorem rule5_calls (b : Nat) (v : Int) (w : World) (h : w.cell? ⟨b, 0, none⟩ = some (.int .i64 v)) (r : Bool) (hr : (!endR v) = r) :
    Calls Tryz.prog 136 #[.pointer (some ⟨b, 0, none⟩)] w fun e w' => e = .returned (.bool r) ∧ Up w w' := by
  have hr2 : (v != 1 && v != 2 && v != 4 && v != 3) = r := by rw [← hr]; simp [endR, bne]
  subst hr2
  clear hr
  cases c1 : (v != 1) <;> cases c2 : (v != 2) <;> cases c4 : (v != 4) <;> cases c3 : (v != 3) <;> (go_enter Tryz.func136, Tryz.ntmps136; go_wp2; go_ret; first | exact ⟨rfl, up_refl _⟩ | exact ⟨by simp [c1, c2, c4, c3], up_refl _⟩)
theorem rule6_calls (b : Nat) (f : Nat → Int) (w : World) (h : H11 w b f) (r : Bool) (hr : (decide (0 < f 4) && decide (0 < f 3)) = r) :
    Calls Tryz.prog 137 #[.pointer (some ⟨b, 0, none⟩)] w fun e w' => e = .returned (.bool r) ∧ Up w w' := by
  have c3 := (h.cell (j := 3) (by decide)).1
  have c4 := (h.cell (j := 4) (by decide)).1
  cases d4 : decide (0 < f 4) <;> cases d3 : decide (0 < f 3) <;> (rw [d4, d3] at hr; subst hr; go_enter Tryz.func137, Tryz.ntmps137; go_wp2; go_ret; exact ⟨rfl, up_refl _⟩)
end Go.Proofs.YthneeainigdmhaaGreat.M
