/- Rows of rows of numbers that a law is handed. -/
import Derived.Test.YthneeainigdmhaaGreatK37
import Derived.Test.YthneeainigdmhaaGreatPBDom
import Derived.Deep.Slices
set_option linter.unusedVariables false
set_option linter.unusedSimpArgs false
namespace Go.Proofs.YthneeainigdmhaaGreat.M
open Go.RowKit Go.ChangeShapes Go.WideShapes
set_option maxHeartbeats 8000000
set_option maxRecDepth 100000
section
variable {H : Type} {enc : TypeId × Value → H} {w : World} {base : Nat} {spare : Nat → Bool} {held : Bool}
theorem open_mat {r : Reach} {b0 : Nat} {v : Value} {d : DataW H} {ps : List MemPlace} (hval : Value.okWide Tryz.prog w r b0 65 v) (h : DataW.Trod enc Tryz.prog w base spare held 65 v d ps) (hw : ∀ n ∈ d.weights Tryz.prog 65, n ≤ reachBytes) :
    ∃ (A : Option Addr) (c : Nat) (M : List (List Int)), v = .slice A M.length c ∧ M.length ≤ c ∧ MatAt w A M ∧ M.length < 4611686018427387904 := by
  have u65 : Tryz.prog.underlying 65 = some (.slice 23) := Tryz.underlying65
  have u23 : Tryz.prog.underlying 23 = some (.slice 21) := Tryz.underlying23
  have u21 : Tryz.prog.underlying 21 = some (.int .i32) := by kernel_rfl
  have c23 : Tryz.prog.cellsOf 23 = 1 := by kernel_rfl
  have c21 : Tryz.prog.cellsOf 21 = 1 := by kernel_rfl
  have b21 : Tryz.prog.bytesOf 21 = 4 := by kernel_rfl
  have b23 : Tryz.prog.bytesOf 23 = 24 := by kernel_rfl
  obtain ⟨a0, len0, cap0, rfl⟩ := okWide_slice u65 hval
  obtain ⟨fuel, hf⟩ := h
  rcases Deep.open_slice1 u65 c23 hf with ⟨hcs, _⟩ | ⟨a, len, cap, m, n, V, D, Pl, hcs, hb, hl, hm, hmm, hx, hi⟩
  · simp [Value.cells] at hcs
    obtain ⟨rfl, rfl, rfl⟩ := hcs
    exact ⟨none, 0, [], rfl, Nat.le_refl _, fun i r hr => by simp at hr, by decide⟩
  · simp [Value.cells] at hcs
    obtain ⟨rfl, rfl, rfl⟩ := hcs
    injection hx with hx1 hx2
    have hlm : len0 ≤ m := by rw [hmm]; split <;> omega
    obtain ⟨R, hR⟩ := Deep.choose_lt (n := len0) (p := fun i (q : List Int × Option Addr × Nat) => w.cell? (a.add i) = some (.slice q.2.1 q.1.length q.2.2) ∧ q.1.length ≤ q.2.2 ∧ Ints .i32 w q.2.1 q.1 ∧ (∀ z ∈ q.1, (Lit.int .i32 z).wf = true) ∧ q.1.length < 4611686018427387904) (fun i hil => by
      obtain ⟨h1, h2⟩ := hi i (by omega)
      obtain ⟨A', c', l, e1, h3, _, h4, h5, h6⟩ := ints_read u23 u21 c21 h2 (fun n hn => by
        refine hw n ?_
        rw [hx1]
        simp only [DataW.weights, u65]
        refine List.mem_cons_of_mem _ (List.mem_append_left _ (weightsAll_mem (List.mem_map.2 ⟨i, List.mem_range.2 hil, rfl⟩) n hn)))
      rw [b21] at h6
      have h7 : l.length < 4611686018427387904 := by omega
      exact ⟨(l, A', c'), by rw [h1, e1], h3, h4, h5, h7⟩)
    have hlen : ((List.range len0).map fun i => (R i).1).length = len0 := by simp
    refine ⟨some a, cap0, (List.range len0).map fun i => (R i).1, by rw [hlen], by rw [hlen]; exact hl, ?_, ?_⟩
    · intro i x hx
      rw [List.getElem?_map] at hx
      obtain ⟨j, hj, rfl⟩ := Option.map_eq_some_iff.1 hx
      have hil : i < len0 := by
        rcases Nat.lt_or_ge i len0 with h | h
        · exact h
        · rw [List.getElem?_eq_none (by simpa using h)] at hj; cases hj
      rw [List.getElem?_range hil] at hj
      obtain rfl := Option.some.inj hj
      obtain ⟨hc, h3, h4, h5, h6⟩ := hR i hil
      exact ⟨a, (R i).2.1, (R i).2.2, rfl, hc, h4, h3, h6, h5⟩
    · rw [hlen]
      have := hw ((((List.range len0).map D).length + ((List.range (m - len0)).map fun j => D (len0 + j)).length) * Tryz.prog.bytesOf 23) (by
        rw [hx1]
        simp only [DataW.weights, u65]
        exact List.mem_cons_self ..)
      rw [b23] at this
      have h3 : reachBytes ≤ 140737488351232 := by decide
      simp only [List.length_map, List.length_range] at this
      omega
end
end Go.Proofs.YthneeainigdmhaaGreat.M
