/- endonymlaw16.told and few, walked. -/
import Derived.Test.YthneeainigdmhaaGreatPJoin3
import Derived.Test.YthneeainigdmhaaGreatPArab
set_option linter.unusedVariables false
set_option linter.unusedSimpArgs false
namespace Go.Proofs.YthneeainigdmhaaGreat.M
open Go.RowKit
set_option maxHeartbeats 16000000
set_option maxRecDepth 100000

theorem JCheck_lit {H : Nat} {w : World} {bd : Nat} {D : DataV} {T : List Rec} (hD : DataAt H w bd D T) (hG : Good T) (g : Nat) (n : Nat) (x : List Int) (w0 : World) (hn : x.length = n) (r : Int) (hr : checkJ (jnF T) (clF T) x = r) (hwf : ∀ z ∈ x, (Lit.int .i32 z).wf = true) (hl : n ≤ 100) (hg : w0.heap.size = g) (hw : w = w0.alloc (.cells (x.map (Value.int .i32)).toArray 21)) :
    Calls Tryz.prog 23 #[.pointer (some ⟨bd, 0, none⟩), .slice (some ⟨g, 0, none⟩) n n] w fun e w' => e = .returned (.int .i64 r) ∧ Up w w' := by
  subst hn
  subst hg
  subst hw
  exact JCheck_calls hD hG _ _ x (ints_new w0 x) (by omega) hwf r hr
def x1 : List Int := [1576, 1614, 8204, 1576]
def x2 : List Int := [97, 8205]
def x3 : List Int := [2381, 8205]
theorem x1_wf : ∀ z ∈ x1, (Lit.int .i32 z).wf = true := by decide
theorem x2_wf : ∀ z ∈ x2, (Lit.int .i32 z).wf = true := by decide
theorem x3_wf : ∀ z ∈ x3, (Lit.int .i32 z).wf = true := by decide
theorem x1_said : checkJ (jnF arabT) (clF arabT) x1 = -1 := by decide
theorem x2_said : checkJ (jnF arabT) (clF arabT) x2 = 1 := by decide
theorem x3_said : checkJ (jnF arabT) (clF arabT) x3 = -1 := by decide
theorem x1_box (W : World) : W.alloc (.cells #[.int .i32 1576, .int .i32 1614, .int .i32 8204, .int .i32 1576] 21) = W.alloc (.cells (x1.map (Value.int .i32)).toArray 21) := rfl
theorem x2_box (W : World) : W.alloc (.cells #[.int .i32 97, .int .i32 8205] 21) = W.alloc (.cells (x2.map (Value.int .i32)).toArray 21) := rfl
theorem x3_box (W : World) : W.alloc (.cells #[.int .i32 2381, .int .i32 8205] 21) = W.alloc (.cells (x3.map (Value.int .i32)).toArray 21) := rfl
theorem x1_len : x1.length = 4 := rfl
theorem x2_len : x2.length = 2 := rfl
theorem x3_len : x3.length = 2 := rfl
theorem told16_calls (w : World) : Calls Tryz.prog 21 #[] w fun e w' => e = .returned (.bool true) ∧ Up w w' := by
  go_enter Tryz.func21, Tryz.ntmps21
  go_wp2_with (first | (go_at_call 88; (with_reducible refine (arabT_calls _).mono ?_); rintro e w1 ⟨A1, n1, rfl, hT1, hup1⟩; have HT1 := Aside0.mk hT1; have HU1 := Aside0.mk hup1; clear hT1 hup1) | (go_at_call 20; (with_reducible refine (Made_fine A1 n1 arabT 13 _ HT1.out.table arabT_wf HT1.out.len rfl (by decide) arabT_fine).mono ?_); rintro e w2 ⟨bd, D, A2, n2, rfl, hD, _, hup2⟩; have HD := Aside0.mk hD; have HU2 := Aside0.mk (up_trans HU1.out hup2); clear hD hup2) | (go_at_call 23; (with_reducible refine (JCheck_nil _ 0 _ _).mono ?_); rintro e w6 ⟨rfl, rfl⟩; have HU6 := Aside0.mk (up_alloc HU5.out (.cells #[.int .i32 97] 21))) | (go_at_call 23; (with_reducible refine (JCheck_lit (HD.out.up (up_alloc HU4.out _)) arabT_good _ 2 x3 w4 x3_len (-1) x3_said x3_wf (by decide) rfl (x3_box _)).mono ?_); rintro e w5 ⟨rfl, hup5⟩; have HU5 := Aside0.mk (up_trans (up_alloc HU4.out _) hup5); clear hup5) | (go_at_call 23; (with_reducible refine (JCheck_lit (HD.out.up (up_alloc HU3.out _)) arabT_good _ 2 x2 w3 x2_len 1 x2_said x2_wf (by decide) rfl (x2_box _)).mono ?_); rintro e w4 ⟨rfl, hup4⟩; have HU4 := Aside0.mk (up_trans (up_alloc HU3.out _) hup4); clear hup4) | (go_at_call 23; (with_reducible refine (JCheck_lit (HD.out.up (up_alloc (up_refl w2) _)) arabT_good _ 4 x1 w2 x1_len (-1) x1_said x1_wf (by decide) rfl (x1_box _)).mono ?_); rintro e w3 ⟨rfl, hup3⟩; have HU3 := Aside0.mk (up_trans (up_alloc (up_refl w2) _) hup3); clear hup3))
  go_ret
  exact ⟨rfl, up_trans HU2.out HU6.out⟩
end Go.Proofs.YthneeainigdmhaaGreat.M
