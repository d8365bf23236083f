/- endonym/endonymlaw16.arab, walked: the little table and three records. -/
import Derived.Test.YthneeainigdmhaaGreatK36
set_option linter.unusedVariables false
set_option linter.unusedSimpArgs false
namespace Go.Proofs.YthneeainigdmhaaGreat.M
open Go.RowKit
set_option maxHeartbeats 16000000
set_option maxRecDepth 100000

def arabT : List Rec := littleT ++ [sayR 10 1576 1576 3 [] 0, sayR 10 1614 1614 5 [] 0, sayR 6 2381 2381 9 [] 0]
def arabTM : List RecP := [(sayR 10 1576 1576 3 [] 0, none, 0), (sayR 10 1614 1614 5 [] 0, none, 0), (sayR 6 2381 2381 9 [] 0, none, 0)]
theorem arabT_right : ∀ x ∈ arabT, Right x := by
  intro x hx
  unfold arabT at hx
  rcases List.mem_append.1 hx with hx | hx
  · exact littleT_right x hx
  simp only [List.mem_cons, List.not_mem_nil, or_false] at hx
  rcases hx with rfl | rfl | rfl <;> (simp [Right, rightE, fam, fams, rd, spanB, fitsB, bareB, sayR, empty_list, listB, shiftsB, oneB, validB, weightB, wrap32, wrap64])
theorem arabT_wf : ∀ x ∈ arabT, x.Wf := by
  intro x hx
  unfold arabT at hx
  rcases List.mem_append.1 hx with hx | hx
  · exact littleT_wf x hx
  simp only [List.mem_cons, List.not_mem_nil, or_false] at hx
  rcases hx with rfl | rfl | rfl <;> exact ⟨by decide, by decide, by decide, by decide, by decide, by decide, by decide, by decide, by decide⟩
theorem arabT_fine : (checkE arabT).2 = 0 := fine_said (by decide) arabT_right (by decide) (by decide) (by decide)
theorem arabT_good : Good arabT := (fine_of arabT_wf arabT_fine).toGood
theorem arabTM_new (w : World) : (∀ p ∈ arabTM, Ints .i32 (w.alloc (.cells (recsCells arabTM).toArray 92)) p.2.1 p.1.to ∧ ∀ a, p.2.1 = some a → a.block < (w.alloc (.cells (recsCells arabTM).toArray 92)).heap.size ∧ w.heap.size ≤ a.block) ∧ (∀ (j : Nat) (u : Value), (recsCells arabTM)[j]? = some u → (w.alloc (.cells (recsCells arabTM).toArray 92)).cell? ((⟨w.heap.size, 0, none⟩ : Addr).add j) = some u) := by
  refine ⟨fun p hp => ?_, fun j u hu => ?_⟩
  · unfold arabTM at hp
    simp only [List.mem_cons, List.not_mem_nil, or_false] at hp
    rcases hp with rfl | rfl | rfl
    · exact ⟨Cells.nil _ _, fun a ha => by cases ha⟩
    · exact ⟨Cells.nil _ _, fun a ha => by cases ha⟩
    · exact ⟨Cells.nil _ _, fun a ha => by cases ha⟩
  · exact cells_new w (recsCells arabTM).toArray 92 j u (by simpa using hu)
attribute [-go_sem] Instr.buildSlice
theorem arabT_calls (w : World) : Calls Tryz.prog 88 #[] w fun e w' => ∃ A c, e = .returned (.slice A 13 c) ∧ OwnTab w.heap.size w' A c arabT ∧ Up w w' := by
  have hu96 := Tryz.underlying92
  have hb1 : ∀ W, (Instr.buildSlice 22 3 #[(0, .agg #[.int .i64 10, .int .i64 1576, .int .i64 1576, .int .i64 3, .slice none 0 0, .string ⟨#[]⟩, .string ⟨#[]⟩, .float .f64 0]), (1, .agg #[.int .i64 10, .int .i64 1614, .int .i64 1614, .int .i64 5, .slice none 0 0, .string ⟨#[]⟩, .string ⟨#[]⟩, .float .f64 0]), (2, .agg #[.int .i64 6, .int .i64 2381, .int .i64 2381, .int .i64 9, .slice none 0 0, .string ⟨#[]⟩, .string ⟨#[]⟩, .float .f64 0])]).run Tryz.prog W = .ok (.slice (some ⟨W.heap.size, 0, none⟩) 3 3) (W.alloc (.cells (recsCells arabTM).toArray 92)) := fun W => build_recs3 (sayR 10 1576 1576 3 [] 0) (sayR 10 1614 1614 5 [] 0) (sayR 6 2381 2381 9 [] 0) none none none 0 0 0 W
  go_enter Tryz.func88, Tryz.ntmps88
  go_wp2_with (first | (go_at_call 70; (with_reducible refine (Little_calls _).mono ?_); rintro e w1 ⟨A1, c1, rfl, hT1, hup1⟩; have HT1 := Aside0.mk hT1; have HU1 := Aside0.mk hup1; clear hT1 hup1) | (at_builtin; refine (wpList_append_tab _ w1 rfl _ _ rfl w.heap.size A1 10 c1 littleT rfl rfl HT1.out (up_alloc (up_refl _) _) ⟨w1.heap.size, 0, none⟩ arabTM 3 3 rfl rfl (by decide) (arabTM_new w1).2 (arabTM_new w1).1 (by decide) HU1.out.size ?_); intro g4 cap4 w4 hT4 hch4))
  go_ret
  refine ⟨some ⟨g4, 0, none⟩, cap4, rfl, hT4, ?_⟩
  exact (((Chg.of_up (M := fun k => w.heap.size ≤ k) HU1.out).trans (Chg.of_up (M := fun _ => False) (up_alloc (up_refl w1) _)) (fun _ h => h.elim)).trans hch4 (fun k h => .inl h)).below (Nat.le_refl _) (fun k h => h)
end Go.Proofs.YthneeainigdmhaaGreat.M
