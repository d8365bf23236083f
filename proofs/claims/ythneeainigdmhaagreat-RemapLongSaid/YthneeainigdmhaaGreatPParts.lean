/- remap.Parts: the closure over its three boxes, walked. -/
import Derived.Test.YthneeainigdmhaaGreatPSet15
set_option linter.unusedVariables false
set_option linter.unusedSimpArgs false
namespace Go.Proofs.YthneeainigdmhaaGreat.M
open Go.RowKit
set_option maxHeartbeats 8000000
set_option maxRecDepth 100000

/-- What Parts hands back: the iterator and its boxes: the numbers (a copy), the table, the flags. -/
def PartsRet (p : Option Addr) (x : List Int) (fl : Int) (w : World) (e : Ending) (w' : World) : Prop :=
  ∃ (b7 b3 b5 : Nat) (Ay : Option Addr) (cy : Nat), e = .returned (.func (.func 108) #[] #[.pointer (some ⟨b7, 0, none⟩), .pointer (some ⟨b3, 0, none⟩), .pointer (some ⟨b5, 0, none⟩)]) ∧ w.heap.size ≤ b7 ∧ w.heap.size ≤ b3 ∧ w.heap.size ≤ b5 ∧ (∀ a, Ay = some a → w.heap.size ≤ a.block) ∧
    w'.cell? ⟨b7, 0, none⟩ = some (.slice Ay x.length cy) ∧ Ints .i32 w' Ay x ∧ w'.cell? ⟨b3, 0, none⟩ = some (.pointer p) ∧ w'.cell? ⟨b5, 0, none⟩ = some (.int .i64 fl) ∧ Up w w'
theorem Parts_calls (bd : Nat) (A : Option Addr) (c : Nat) (x : List Int) (fl : Int) (w : World) (hI : Ints .i32 w A x) (hx : x.length ≤ 100000) :
    Calls Tryz.prog 69 #[.pointer (some ⟨bd, 0, none⟩), .slice A x.length c, .int .i64 fl] w (PartsRet (some ⟨bd, 0, none⟩) x fl w) := by
  have HI := Aside0.mk hI
  have HLEN : Aside0 (0 + x.length ≤ maxLen ∧ (0 + x.length) * 4 ≤ 140737488355328) := ⟨by unfold maxLen; omega⟩
  obtain ⟨ie, ze, hie, hze, hsi, hby, hzc⟩ := i32_info
  clear hI
  go_enter Tryz.func69, Tryz.ntmps69
  go_wp2_with (first | (at_builtin; refine (wpList_append_row _ rfl _ _ 23 rfl w.heap.size 21 ie ze 1 4 Tryz.underlying23 hie hze hsi hby hzc (by decide) _ 0 [] rfl (World.ownsRow_nil _ _ _ _) A x.length c (x.map (Value.int .i32)) rfl (by simp) (HI.out.up (up_alloc (up_alloc (up_refl w) _) _)) (ints_one _ _) ?hb ?hc ?hd ?_); (case hb => exact HLEN.out.1); (case hc => exact HLEN.out.2); (case hd => exact (up_alloc (up_alloc (up_refl w) _) _).size); intro v' w3 hown' hgrow hat'; rw [Nat.zero_add, List.nil_append] at hown'; obtain ⟨Ay, cy, hv, hiy, _⟩ := own_ints hown'; subst hv; have HAY : Aside0 (∀ a, Ay = some a → w.heap.size ≤ a.block) := ⟨fun a ha => (own_lt_some hown' ha).1⟩; have HI3 := Aside0.mk hiy; have HU3 := Aside0.mk (up_nil hgrow rfl); have hq3 : (w3.alloc (.cells #[.slice Ay x.length cy] 23)).cell? ⟨w.heap.size, 0, none⟩ = some (.pointer (some ⟨bd, 0, none⟩)) := up_cell (up_alloc HU3.out _) (up_cell (up_alloc (up_refl _) _) (cell_of_row _ _ 0 _ _ (0, 0) (heap_alloc_new w _))); clear hown' hgrow hat' hiy))
  go_ret
  have hs1 : (w.alloc (.cells #[.pointer (some ⟨bd, 0, none⟩)] 24)).heap.size = w.heap.size + 1 := by simp
  refine ⟨_, _, _, Ay, cy, rfl, ?_, Nat.le_refl _, Nat.le_succ _, HAY.out, ?_, HI3.out.up (up_alloc (up_refl _) _), hq3, ?_, up_alloc (up_trans (up_alloc (up_alloc (up_refl w) _) _) HU3.out) _⟩
  · exact Nat.le_trans (up_alloc (up_alloc (up_refl w) _) _).size HU3.out.size
  · exact cell_of_row _ _ 0 _ _ (0, 0) (heap_alloc_new w3 _)
  · refine up_cell (up_alloc HU3.out _) ?_
    have := cell_of_row _ _ 0 _ _ (0, 0) (heap_alloc_new (w.alloc (.cells #[.pointer (some ⟨bd, 0, none⟩)] 24)) (.cells #[.int .i64 fl] 3))
    rw [hs1] at this
    exact this
end Go.Proofs.YthneeainigdmhaaGreat.M
