/- A row of one's own that holds rows of numbers. -/
import Derived.Test.YthneeainigdmhaaGreatPBDom
import Derived.Test.YthneeainigdmhaaGreatPTold17
set_option linter.unusedVariables false
set_option linter.unusedSimpArgs false
namespace Go.Proofs.YthneeainigdmhaaGreat.M
open Go.RowKit
set_option maxHeartbeats 8000000

theorem addr_block (a : Addr) (i : Nat) : (a.add i).block = a.block := by unfold Addr.add; split <;> rfl
/-- What stands in such a row: rows of numbers, each outside the block ob. -/
def InRows (w : World) (ob : Option Nat) (xs : List Value) (R : List (List Int)) : Prop :=
  xs.length = R.length ∧ ∀ (i : Nat) (r : List Int), R[i]? = some r → ∃ Ar cr, xs[i]? = some (.slice Ar r.length cr) ∧ Ints .i32 w Ar r ∧ r.length ≤ cr ∧ ∀ a, Ar = some a → ob ≠ some a.block ∧ a.block < w.heap.size
theorem InRows.nil (w : World) (ob : Option Nat) : InRows w ob [] [] := ⟨rfl, fun i r h => by simp at h⟩
theorem InRows.up {w w' : World} {ob : Option Nat} {xs : List Value} {R : List (List Int)} (h : InRows w ob xs R) (hu : Up w w') : InRows w' ob xs R := ⟨h.1, fun i r hr => by
  obtain ⟨Ar, cr, h1, h2, h3, h4⟩ := h.2 i r hr
  exact ⟨Ar, cr, h1, h2.up hu, h3, fun a ha => ⟨(h4 a ha).1, Nat.lt_of_lt_of_le (h4 a ha).2 hu.size⟩⟩⟩
theorem InRows.grown {w w' : World} {ob ob' : Option Nat} {xs : List Value} {R : List (List Int)} (h : InRows w ob xs R) (hg : w.grownBy w' ob) (ho : ob' = ob ∨ ob' = some w.heap.size) : InRows w' ob' xs R := ⟨h.1, fun i r hr => by
  obtain ⟨Ar, cr, h1, h2, h3, h4⟩ := h.2 i r hr
  refine ⟨Ar, cr, h1, fun j v hv => ?_, h3, fun a ha => ⟨?_, Nat.lt_of_lt_of_le (h4 a ha).2 hg.size⟩⟩
  · obtain ⟨a, ha, hc⟩ := h2 j v hv
    refine ⟨a, ha, ?_⟩
    have h5 := h4 a ha
    rw [World.cell?_of_block (hg.block _ (by rw [addr_block]; exact h5.2) (by rw [addr_block]; exact fun e => h5.1 e.symm))]
    exact hc
  · have h5 := h4 a ha
    rcases ho with e | e
    · rw [e]; exact h5.1
    · rw [e]
      intro e2
      have := Option.some.inj e2
      omega⟩
theorem InRows.push {w : World} {ob : Option Nat} {xs : List Value} {R : List (List Int)} (h : InRows w ob xs R) (A : Option Addr) (r : List Int) (c : Nat) (hI : Ints .i32 w A r) (hc : r.length ≤ c) (hb : ∀ a, A = some a → ob ≠ some a.block ∧ a.block < w.heap.size) : InRows w ob (xs ++ [.slice A r.length c]) (R ++ [r]) := by
  refine ⟨by simp [h.1], fun i q hq => ?_⟩
  rw [List.getElem?_append] at hq
  split at hq
  · rename_i hlt
    obtain ⟨Ar, cr, h1, h2⟩ := h.2 i q hq
    refine ⟨Ar, cr, ?_, h2⟩
    rw [List.getElem?_append_left (by rw [h.1]; exact hlt)]
    exact h1
  · rename_i hge
    have e : i - R.length = 0 := by
      rcases Nat.eq_zero_or_pos (i - R.length) with e | e
      · exact e
      · rw [List.getElem?_eq_none (by simp; omega)] at hq
        cases hq
    rw [e] at hq
    cases hq
    refine ⟨A, c, ?_, hI, hc, hb⟩
    rw [List.getElem?_append_right (by rw [h.1]; omega), h.1, e]
    rfl
/-- .. read as rows of numbers in memory. -/
theorem InRows.mat {w : World} {ob : Option Nat} {xs : List Value} {R : List (List Int)} (h : InRows w ob xs R) {base : Nat} {t : TypeId} {A : Option Addr} {n c : Nat} (ho : w.ownsRow base t 1 (.slice A n c) n xs) (hR : ∀ r ∈ R, r.length < 4611686018427387904 ∧ ∀ z ∈ r, (Lit.int .i32 z).wf = true) : MatAt w A R := fun i r hr => by
  obtain ⟨Ar, cr, h1, h2, h3, _⟩ := h.2 i r hr
  have hm := hR r (List.mem_of_getElem? hr)
  rcases own_cases ho with ⟨hv, hn, hx⟩ | ⟨g, cap, hv, _, _, hc⟩
  · rw [hx] at h1
    cases h1
  · cases hv
    refine ⟨⟨g, 0, none⟩, Ar, cr, rfl, ?_, h2, h3, hm.1, hm.2⟩
    rw [show (⟨g, 0, none⟩ : Addr).add i = ⟨g, i, none⟩ by unfold Addr.add; split <;> simp_all]
    exact hc i _ h1
/-- A row that a call hands back lies apart from what was there, and has room. -/
theorem own_apart {w w' : World} {t : TypeId} {A : Option Addr} {n c : Nat} {xs : List Value} (h : w'.ownsRow w.heap.size t 1 (.slice A n c) n xs) {base : Nat} {t2 : TypeId} {s2 : Nat} {v : Value} {m : Nat} {ys : List Value} (hv : w.ownsRow base t2 s2 v m ys) : ∀ a, A = some a → v.ownBlock ≠ some a.block ∧ a.block < w'.heap.size := fun a ha => by
  subst ha
  have h1 := h.lt a.block rfl
  refine ⟨fun e => ?_, h1.2⟩
  have h2 := hv.lt a.block e
  omega
theorem sliceInfo : (Tryz.prog.info? 23).map (fun i => (i.zero.map (fun z => z.cells.size), i.size, i.bytes)) = some (some 1, 1, 24) := by kernel_rfl
theorem slice_info : ∃ (i : TypeInfo) (z : Value), Tryz.prog.info? 23 = some i ∧ i.zero = some z ∧ i.size = 1 ∧ i.bytes = 24 ∧ z.cells.size = 1 := by
  have := sliceInfo
  cases hi : Tryz.prog.info? 23 with
  | none => rw [hi] at this; cases this
  | some i =>
    rw [hi] at this
    simp only [Option.map_some, Option.some.injEq, Prod.mk.injEq] at this
    obtain ⟨h1, h2, h3⟩ := this
    cases hz : i.zero with
    | none => rw [hz] at h1; cases h1
    | some z =>
      rw [hz] at h1
      exact ⟨i, z, rfl, hz, h2, h3, by simpa using h1⟩
end Go.Proofs.YthneeainigdmhaaGreat.M
