/- endonym/endonymlaw17.hebr, walked: the little table and three records. -/
import Derived.Test.YthneeainigdmhaaGreatK36
set_option linter.unusedVariables false
set_option linter.unusedSimpArgs false
namespace Go.Proofs.YthneeainigdmhaaGreat.M
open Go.RowKit
set_option maxHeartbeats 16000000
set_option maxRecDepth 100000

def hebrT : List Rec := littleT ++ [sayR 9 1488 1514 1 [] 0, sayR 9 48 57 4 [] 0, sayR 9 768 768 10 [] 0]
def hebrTM : List RecP := [(sayR 9 1488 1514 1 [] 0, none, 0), (sayR 9 48 57 4 [] 0, none, 0), (sayR 9 768 768 10 [] 0, none, 0)]
theorem hebrT_right : ∀ x ∈ hebrT, Right x := by
  intro x hx
  unfold hebrT at hx
  rcases List.mem_append.1 hx with hx | hx
  · exact littleT_right x hx
  simp only [List.mem_cons, List.not_mem_nil, or_false] at hx
  rcases hx with rfl | rfl | rfl <;> (simp [Right, rightE, fam, fams, rd, spanB, fitsB, bareB, sayR, empty_list, listB, shiftsB, oneB, validB, weightB, wrap32, wrap64])
theorem hebrT_wf : ∀ x ∈ hebrT, x.Wf := by
  intro x hx
  unfold hebrT at hx
  rcases List.mem_append.1 hx with hx | hx
  · exact littleT_wf x hx
  simp only [List.mem_cons, List.not_mem_nil, or_false] at hx
  rcases hx with rfl | rfl | rfl <;> exact ⟨by decide, by decide, by decide, by decide, by decide, by decide, by decide, by decide, by decide⟩
theorem hebrT_fine : (checkE hebrT).2 = 0 := fine_said (by decide) hebrT_right (by decide) (by decide) (by decide)
theorem hebrT_good : Good hebrT := (fine_of hebrT_wf hebrT_fine).toGood
theorem hebrTM_new (w : World) : (∀ p ∈ hebrTM, Ints .i32 (w.alloc (.cells (recsCells hebrTM).toArray 92)) p.2.1 p.1.to ∧ ∀ a, p.2.1 = some a → a.block < (w.alloc (.cells (recsCells hebrTM).toArray 92)).heap.size ∧ w.heap.size ≤ a.block) ∧ (∀ (j : Nat) (u : Value), (recsCells hebrTM)[j]? = some u → (w.alloc (.cells (recsCells hebrTM).toArray 92)).cell? ((⟨w.heap.size, 0, none⟩ : Addr).add j) = some u) := by
  refine ⟨fun p hp => ?_, fun j u hu => ?_⟩
  · unfold hebrTM at hp
    simp only [List.mem_cons, List.not_mem_nil, or_false] at hp
    rcases hp with rfl | rfl | rfl
    · exact ⟨Cells.nil _ _, fun a ha => by cases ha⟩
    · exact ⟨Cells.nil _ _, fun a ha => by cases ha⟩
    · exact ⟨Cells.nil _ _, fun a ha => by cases ha⟩
  · exact cells_new w (recsCells hebrTM).toArray 92 j u (by simpa using hu)
attribute [-go_sem] Instr.buildSlice
theorem hebrT_calls (w : World) : Calls Tryz.prog 99 #[] w fun e w' => ∃ A c, e = .returned (.slice A 13 c) ∧ OwnTab w.heap.size w' A c hebrT ∧ Up w w' := by
  have hu96 := Tryz.underlying92
  have hb1 : ∀ W, (Instr.buildSlice 22 3 #[(0, .agg #[.int .i64 9, .int .i64 1488, .int .i64 1514, .int .i64 1, .slice none 0 0, .string ⟨#[]⟩, .string ⟨#[]⟩, .float .f64 0]), (1, .agg #[.int .i64 9, .int .i64 48, .int .i64 57, .int .i64 4, .slice none 0 0, .string ⟨#[]⟩, .string ⟨#[]⟩, .float .f64 0]), (2, .agg #[.int .i64 9, .int .i64 768, .int .i64 768, .int .i64 10, .slice none 0 0, .string ⟨#[]⟩, .string ⟨#[]⟩, .float .f64 0])]).run Tryz.prog W = .ok (.slice (some ⟨W.heap.size, 0, none⟩) 3 3) (W.alloc (.cells (recsCells hebrTM).toArray 92)) := fun W => build_recs3 (sayR 9 1488 1514 1 [] 0) (sayR 9 48 57 4 [] 0) (sayR 9 768 768 10 [] 0) none none none 0 0 0 W
  go_enter Tryz.func99, Tryz.ntmps99
  go_wp2_with (first | (go_at_call 70; (with_reducible refine (Little_calls _).mono ?_); rintro e w1 ⟨A1, c1, rfl, hT1, hup1⟩; have HT1 := Aside0.mk hT1; have HU1 := Aside0.mk hup1; clear hT1 hup1) | (at_builtin; refine (wpList_append_tab _ w1 rfl _ _ rfl w.heap.size A1 10 c1 littleT rfl rfl HT1.out (up_alloc (up_refl _) _) ⟨w1.heap.size, 0, none⟩ hebrTM 3 3 rfl rfl (by decide) (hebrTM_new w1).2 (hebrTM_new w1).1 (by decide) HU1.out.size ?_); intro g4 cap4 w4 hT4 hch4))
  go_ret
  refine ⟨some ⟨g4, 0, none⟩, cap4, rfl, hT4, ?_⟩
  exact (((Chg.of_up (M := fun k => w.heap.size ≤ k) HU1.out).trans (Chg.of_up (M := fun _ => False) (up_alloc (up_refl w1) _)) (fun _ h => h.elim)).trans hch4 (fun k h => .inl h)).below (Nat.le_refl _) (fun k h => h)
end Go.Proofs.YthneeainigdmhaaGreat.M
