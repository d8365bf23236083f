/- few, walked. -/
import Derived.Test.YthneeainigdmhaaGreatK36
set_option linter.unusedVariables false
set_option linter.unusedSimpArgs false
namespace Go.Proofs.YthneeainigdmhaaGreat.M
open Go.RowKit
set_option maxHeartbeats 16000000
set_option maxRecDepth 100000
attribute [local go_sem] max_two_int min_two_int

theorem ints_take {k : IntKind} {w : World} {A : Option Addr} {l : List Int} (h : Ints k w A l) (n : Nat) : Ints k w A (l.take n) := fun i v hv => by
  rw [List.getElem?_map, List.getElem?_take] at hv
  split at hv
  · exact h i v (by rw [List.getElem?_map]; exact hv)
  · cases hv
theorem few16_calls (A : Option Addr) (c : Nat) (x y : List Int) (n : Nat) (w : World) (hI : Ints .i32 w A x) (hx : x.length < 4611686018427387904) (hc : x.length ≤ c) (hn : n ≤ 100) (hy : x.take n = y) :
    Calls Tryz.prog 22 #[.slice A x.length c, .int .i64 n] w (RetRow y w) := by
  have hyl : y.length = min n x.length := by rw [← hy, List.length_take]
  have hmn : min (x.length : Int) (n : Int) = (y.length : Int) := by omega
  have h1 : 0 ≤ (y.length : Int) := by omega
  have h2 : (y.length : Int) ≤ (c : Int) := by omega
  have HY : Aside0 (Ints .i32 w A y) := ⟨by rw [← hy]; exact ints_take hI n⟩
  have HLEN : Aside0 (0 + y.length ≤ maxLen ∧ (0 + y.length) * 4 ≤ 140737488355328) := ⟨by unfold maxLen; omega⟩
  obtain ⟨ie, ze, hie, hze, hsi, hby, hzc⟩ := i32_info
  clear hI hy hyl hc
  go_enter Tryz.func22, Tryz.ntmps22
  go_wp2_with (first | (at_builtin; refine (wpList_append_row _ rfl _ _ 23 rfl w.heap.size 21 ie ze 1 4 Tryz.underlying23 hie hze hsi hby hzc (by decide) _ 0 [] rfl (World.ownsRow_nil _ _ _ _) A y.length c (y.map (Value.int .i32)) rfl (by simp) ?ha (ints_one _ _) ?hb ?hc ?hd ?_); (case ha => exact HY.out); (case hb => exact HLEN.out.1); (case hc => exact HLEN.out.2); (case hd => exact Nat.le_refl _); intro v' w3 hown' hgrow hat'))
  go_ret
  rw [Nat.zero_add, List.nil_append] at hown'
  exact ⟨_, rfl, hown', up_nil hgrow rfl⟩
end Go.Proofs.YthneeainigdmhaaGreat.M
