/- endonymlaw13.few: at most so many numbers, two marks in the room behind them. -/
import Derived.Test.YtnohcnneflogjaaGreatK38
set_option maxHeartbeats 8000000
set_option maxRecDepth 100000
set_option linter.unusedVariables false
set_option linter.unusedSimpArgs false
namespace Go.Proofs.YtnohcnneflogjaaGreat.M
open Go.RowKit
attribute [local go_sem] max_two_int min_two_int
def RetFew13 (l : List Int) (w : World) (e : Ending) (w' : World) : Prop := ∃ g c, e = .returned (.slice (some ⟨g, 0, none⟩) l.length c) ∧ l.length + 2 ≤ c ∧ w'.ownsRow w.heap.size 21 1 (.slice (some ⟨g, 0, none⟩) (l.length + 2) c) (l.length + 2) ((l ++ [-7, -8]).map (Value.int .i32)) ∧ Up w w'
theorem few13_calls (A : Option Addr) (c : Nat) (x y : List Int) (n : Nat) (w : World) (hI : Ints .i32 w A x) (hx : x.length < 4611686018427387904) (hc : x.length ≤ c) (hn : n ≤ 1000) (hy : x.take n = y) :
 Calls Tryz.prog 42 #[.slice A x.length c, .int .i64 n] w (RetFew13 y w) := by
 have hyl : y.length = min n x.length := by rw [← hy, List.length_take]
 have hmn : min (x.length : Int) (n : Int) = (y.length : Int) := by omega
 have h1 : 0 ≤ (y.length : Int) := by omega
 have h2 : (y.length : Int) ≤ (c : Int) := by omega
 have hy1000 : y.length ≤ 1000 := by omega
 have HY : Az (Ints .i32 w A y) := ⟨by rw [← hy]; exact ints_take12 hI n⟩
 have HLEN : Az (0 + y.length ≤ maxLen ∧ (0 + y.length) * 4 ≤ 140737488355328) := ⟨by unfold maxLen; omega⟩
 have HLEN2 : Az (y.length + 2 ≤ maxLen ∧ (y.length + 2) * 4 ≤ 140737488355328) := ⟨by unfold maxLen; omega⟩
 obtain ⟨ie, ze, hie, hze, hsi, hby, hzc⟩ := i32_info
 clear hI hy hyl hc
 go_enter Tryz.func42, Tryz.ntmps42
 go_wp2_with (first | (at_builtin; refine (wpList_append_row _ rfl _ _ 23 rfl w.heap.size 21 ie ze 1 4 Tryz.underlying23 hie hze hsi hby hzc (by decide) _ 0 [] rfl (World.ownsRow_nil _ _ _ _) A y.length c (y.map (Value.int .i32)) rfl (by simp) ?ha (ints_one _ _) ?hb ?hc ?hd ?_); (case ha => exact HY.out); (case hb => exact HLEN.out.1); (case hc => exact HLEN.out.2); (case hd => exact Nat.le_refl _); intro v' w3 hown' hgrow hat'; rw [Nat.zero_add, List.nil_append] at hown'; obtain ⟨A3, c3, hv⟩ := own_any hown'; subst hv; have HO3 := Az.mk hown'; have HU3 := Az.mk (up_nil hgrow rfl); clear hown' hgrow hat') | (at_builtin; refine (wpList_append_row _ rfl _ _ 23 rfl w.heap.size 21 ie ze 1 4 Tryz.underlying23 hie hze hsi hby hzc (by decide) (.slice A3 y.length c3) y.length (y.map (Value.int .i32)) rfl (HO3.out.alloc _) (some ⟨w3.heap.size, 0, none⟩) 2 2 (([-7, -8] : List Int).map (Value.int .i32)) rfl rfl (ints_new w3 [-7, -8]) (ints_one _ _) ?ha6 ?hb6 ?hc6 ?_); (case ha6 => exact HLEN2.out.1); (case hb6 => exact HLEN2.out.2); (case hc6 => exact Nat.le_trans HU3.out.size (up_alloc (up_refl _) _).size); intro v6 w6 hown6 hgrow6 hat6; have HO6 : Az (w6.ownsRow w.heap.size 21 1 v6 (y.length + 2) ((y ++ [-7, -8]).map (Value.int .i32))) := ⟨(congrArg (fun l => w6.ownsRow w.heap.size 21 1 v6 (y.length + 2) l) (List.map_append (f := Value.int .i32) (l₁ := y) (l₂ := [-7, -8]))).mpr hown6⟩; obtain ⟨A6, c6, hv6⟩ := own_any HO6.out; subst hv6; obtain ⟨hcap, g6, hA6, _⟩ := own_room12 HO6.out (by omega); subst hA6; have HU6 := Az.mk ((up_alloc HU3.out (.cells #[.int .i32 (-7), .int .i32 (-8)] 21)).grown hgrow6 (up_alloc HU3.out (.cells #[.int .i32 (-7), .int .i32 (-8)] 21)).size (fun k hk => (HO3.out.lt k hk).1)); have hc6 : (y.length : Int) ≤ (c6 : Int) := Int.ofNat_le.2 (Nat.le_trans (Nat.le_add_right _ _) hcap); clear hown6 hgrow6 hat6))
 go_ret
 exact ⟨_, _, rfl, hcap, HO6.out, HU6.out⟩
theorem few13_own (A : Option Addr) (c : Nat) (x y : List Int) (n : Nat) (z : Int) (hz : z = (n : Int)) (w : World) (hI : Ints .i32 w A x) (hx : x.length < 4611686018427387904) (hc : x.length ≤ c) (hn : n ≤ 1000) (hy : x.take n = y) :
 Calls Tryz.prog 42 #[.slice A x.length c, .int .i64 z] w (RetFew13 y w) := by
 subst hz
 exact few13_calls A c x y n w hI hx hc hn hy
theorem few13_ints (A : Option Addr) (c : Nat) (x y : List Int) (n : Nat) (z : Int) (hz : z = (n : Int)) (w : World) (hI : Ints .i32 w A x) (hx : x.length < 4611686018427387904) (hc : x.length ≤ c) (hn : n ≤ 1000) (hy : x.take n = y) :
 Calls Tryz.prog 42 #[.slice A x.length c, .int .i64 z] w fun e w' => ∃ A' c', e = .returned (.slice A' y.length c') ∧ Ints .i32 w' A' y ∧ Up w w' := by
 subst hz
 refine (few13_calls A c x y n w hI hx hc hn hy).mono ?_
 rintro e w' ⟨g, c', rfl, _, hown, hup⟩
 refine ⟨_, _, rfl, ?_, hup⟩
 have h : w'.ownsRow w.heap.size 21 1 (.slice (some ⟨g, 0, none⟩) (y ++ [-7, -8]).length c') (y ++ [-7, -8]).length ((y ++ [-7, -8]).map (Value.int .i32)) := by rw [List.length_append]; exact hown
 obtain ⟨A', c'', he, hi, _⟩ := own_ints h
 cases he
 have h2 := ints_take12 hi y.length
 rw [List.take_left] at h2
 exact h2
end Go.Proofs.YtnohcnneflogjaaGreat.M
