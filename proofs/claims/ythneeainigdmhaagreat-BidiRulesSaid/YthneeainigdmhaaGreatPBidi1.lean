/- Counts of directions, walked: holds.only, and the closures of the rules. -/
import Derived.Test.YthneeainigdmhaaGreatK32
import Derived.Test.YthneeainigdmhaaGreatPBidiP
import Derived.ChangeKeysEq
set_option linter.unusedVariables false
set_option linter.unusedSimpArgs false
namespace Go.Proofs.YthneeainigdmhaaGreat.M
open Go.RowKit
set_option maxHeartbeats 8000000
set_option maxRecDepth 100000

/-- Eleven numbers in memory. -/
abbrev a11 (f : Nat → Int) : Array Value := #[.int .i64 (f 0), .int .i64 (f 1), .int .i64 (f 2), .int .i64 (f 3), .int .i64 (f 4), .int .i64 (f 5), .int .i64 (f 6), .int .i64 (f 7), .int .i64 (f 8), .int .i64 (f 9), .int .i64 (f 10)]
theorem a11_get (f : Nat → Int) {j : Nat} (h : j < 11) : (a11 f)[j]? = some (.int .i64 (f j)) := by
  have : j = 0 ∨ j = 1 ∨ j = 2 ∨ j = 3 ∨ j = 4 ∨ j = 5 ∨ j = 6 ∨ j = 7 ∨ j = 8 ∨ j = 9 ∨ j = 10 := by omega
  rcases this with rfl | rfl | rfl | rfl | rfl | rfl | rfl | rfl | rfl | rfl | rfl <;> rfl
theorem a11_set (f : Nat → Int) {j : Nat} (h : j < 11) (v : Int) : (a11 f).setIfInBounds j (.int .i64 v) = a11 (fun k => if k = j then v else f k) := by
  have : j = 0 ∨ j = 1 ∨ j = 2 ∨ j = 3 ∨ j = 4 ∨ j = 5 ∨ j = 6 ∨ j = 7 ∨ j = 8 ∨ j = 9 ∨ j = 10 := by omega
  rcases this with rfl | rfl | rfl | rfl | rfl | rfl | rfl | rfl | rfl | rfl | rfl <;> rfl
/-- A block of eleven numbers. -/
def H11 (w : World) (b : Nat) (f : Nat → Int) : Prop := w.heap[b]? = some (.cells (a11 f) 115 (0, 0))
theorem H11.new (w : World) (f : Nat → Int) : H11 (w.alloc (.cells (a11 f) 115)) w.heap.size f := heap_alloc_new w _
theorem H11.cell {w : World} {b : Nat} {f : Nat → Int} (h : H11 w b f) {j : Nat} (hj : j < 11) : w.cell? ⟨b, j, none⟩ = some (.int .i64 (f j)) ∧ w.frozen? ⟨b, j, none⟩ = false := by
  unfold H11 at h
  constructor
  · simp [World.cell?, h, a11_get f hj]
  · simp [World.frozen?, h]
theorem H11.lt {w : World} {b : Nat} {f : Nat → Int} (h : H11 w b f) : b < w.heap.size := (Array.getElem?_eq_some_iff.1 h).1
theorem H11.up {w w' : World} {b : Nat} {f : Nat → Int} (h : H11 w b f) (hu : Up w w') : H11 w' b f := (hu.block b h.lt).trans h
theorem H11.set {w : World} {b : Nat} {f : Nat → Int} (h : H11 w b f) {j : Nat} (hj : j < 11) (v : Int) : H11 (w.setCell ⟨b, j, none⟩ (.int .i64 v)) b (fun k => if k = j then v else f k) := by
  have := box_set h j (.int .i64 v)
  rw [a11_set f hj] at this
  exact this
theorem h11_load {w : World} {b : Nat} {f : Nat → Int} (h : H11 w b f) : (loadCellsFrom ⟨b, 0, none⟩ 0 11 #[]).run Tryz.prog w = .ok (a11 f) w := by
  have := run_loadCells_list (P := Tryz.prog) w ⟨b, 0, none⟩ (a11 f).toList (fun j v hv => by
    have hadd : (⟨b, 0, none⟩ : Addr).add j = ⟨b, j, none⟩ := by unfold Addr.add; split <;> simp_all
    rw [hadd, cell_of_row _ _ j _ _ (0, 0) h]
    simpa using hv)
  have h2 : (a11 f).toList.length = 11 := rfl
  rw [h2] at this
  exact this
theorem isAgg_int (w : World) : (isAgg 3).run Tryz.prog w = .ok false w := by kernel_rfl
theorem eq_items (g : Nat → Int) (d : Nat) (w : World) : ∀ is : List Nat, (∀ j ∈ is, j < 11) → (Op.eqItems (d + 1) 3 1 (a11 g) (a11 fun _ => 0) is).run Tryz.prog w = .ok (is.all fun j => g j == 0) w := by
  intro is
  induction is with
  | nil => intro _; simp [Op.eqItems]
  | cons j is ih =>
    intro h
    have hj := h j (by simp)
    have hx := a11_get g hj
    have hy := a11_get (fun _ => 0) hj
    have h1 : (part 3 (a11 g) (j * 1)).run Tryz.prog w = .ok (.int .i64 (g j)) w := by
      rw [Nat.mul_one]
      simp only [part, Sem.run_bind, isAgg_int, Result.andThen_ok, Bool.false_eq_true, if_false, hx, Sem.run_pure]
    have h2 : (part 3 (a11 fun _ => 0) (j * 1)).run Tryz.prog w = .ok (.int .i64 0) w := by
      rw [Nat.mul_one]
      simp only [part, Sem.run_bind, isAgg_int, Result.andThen_ok, Bool.false_eq_true, if_false, hy, Sem.run_pure]
    simp only [Op.eqItems, Sem.run_bind, h1, h2, Result.andThen_ok, run_equalIn_int w d 3 .i64 .i64 _ _ Tryz.underlying3, List.all_cons]
    cases hg : (g j == 0) with
    | false => simp
    | true =>
      simp only [Bool.not_true, Bool.false_eq_true, if_false, Bool.true_and]
      exact ih (fun k hk => h k (by simp [hk]))
theorem eq_h11 (f : Nat → Int) (w : World) : (Op.equalIn 10000 115 (.agg (a11 f)) (.agg (a11 fun _ => 0))).run Tryz.prog w = .ok ((List.range 11).all fun j => f j == 0) w := by
  obtain ⟨i, hi⟩ : ∃ i, Tryz.prog.info? 3 = some i := Option.isSome_iff_exists.1 (by kernel_rfl)
  rw [run_equalIn_array w 9999 (a11 f) (a11 fun _ => 0) Tryz.underlying115 hi]
  have hc : Tryz.prog.cellsOf 3 = 1 := by kernel_rfl
  rw [hc]
  exact eq_items f 9998 w _ (fun j hj => List.mem_range.1 hj)
/-- Counts with those of some directions struck. -/
def cutD (f : Nat → Int) (l : List Int) (k : Nat) : Int := if (k : Int) ∈ l then 0 else f k
def noneD (f : Nat → Int) (l : List Int) : Bool := (List.range 11).all fun j => cutD f l j == 0
theorem cutD_step (f : Nat → Int) (l : List Int) (i m : Nat) (h : i < l.length) (hz : rd l i = m) : (fun k => if k = m then 0 else cutD f (l.take i) k) = cutD f (l.take (i + 1)) := by
  funext k
  unfold cutD
  rw [rd_elem l i h] at hz
  rw [List.take_succ_eq_append_getElem h]
  simp only [List.mem_append, List.mem_singleton, hz]
  by_cases e : k = m
  · subst e
    simp
  · have e' : ¬ (k : Int) = (m : Int) := by omega
    simp [e, e']
attribute [-go_sem] loadCellsFrom
theorem only_calls (f : Nat → Int) (ad : Addr) (c : Nat) (l : List Int) (w : World) (hI : Ints .i64 w (some ad) l) (hl : ∀ z ∈ l, 0 ≤ z ∧ z < 11) (hn : l.length < 4611686018427387904) (b : Bool) (hb : noneD f l = b) :
    Calls Tryz.prog 132 #[.agg (a11 f), .slice (some ad) l.length c] w fun e w' => e = .returned (.bool b) ∧ Up w w' := by
  have HI := Aside0.mk hI
  have HL := Aside0.mk hl
  have HNN := Aside0.mk hn
  have HR := Aside0.mk hb
  have hH := H11.new w f
  have HH := Aside0.mk hH
  clear hI hl hb hH hn
  go_enter Tryz.func132, Tryz.ntmps132
  go_wp2
  go_loopg [6, 9] l.length (fun k v6 v9 w' => ∃ i : Nat, v9 = .int .i64 i ∧ Aside0 (i + k = l.length) ∧ Aside0 (H11 w' w.heap.size (cutD f (l.take i))) ∧ Aside0 (Up w w'))
  case atStart => exact ⟨0, rfl, ⟨Nat.zero_add _⟩, ⟨by rw [show cutD f (l.take 0) = f from by funext k; simp [cutD]]; exact HH.out⟩, ⟨up_alloc (up_refl _) _⟩⟩
  case round =>
    obtain ⟨i, rfl, HN, HA, HB⟩ := hrel
    cases gk with
    | zero =>
      have hlt : decide ((i : Int) < (l.length : Int)) = false := decide_eq_false (by have := HN.out; omega)
      have hlt1 : ¬ (i < l.length) := by have := HN.out; omega
      obtain ⟨g, hg⟩ : ∃ g, cutD f (l.take i) = g := ⟨_, rfl⟩
      have hgb : ((List.range 11).all fun j => g j == 0) = b := by rw [← hg, List.take_of_length_le (by omega)]; exact HR.out
      have hA := HA.out
      rw [hg] at hA
      have hld := h11_load hA
      have heq : ∀ w, (Op.equalIn 10000 115 (.agg (a11 g)) (.agg (a11 fun _ => 0))).run Tryz.prog w = .ok b w := fun w => by rw [eq_h11, hgb]
      clear hgb hg hA HA
      go_wp2
      go_ret
      exact ⟨rfl, HB.out⟩
    | succ k =>
      have hlt : decide ((i : Int) < (l.length : Int)) = true := decide_eq_true (by have := HN.out; omega)
      have hlt1 : i < l.length := by have := HN.out; omega
      have h7 : 0 ≤ (i : Int) := by omega
      have h9 : (i : Int) < (l.length : Int) := by omega
      have hxl : l.length < 4611686018427387904 := HNN.out
      obtain ⟨ad', hA', hc⟩ := HI.out.at_ i h7 h9
      cases hA'
      rw [Int.toNat_natCast] at hc
      replace hc := up_cell HB.out hc
      have hz := HL.out (rd l i) (by rw [rd_elem l i hlt1]; exact List.getElem_mem _)
      obtain ⟨m, hm⟩ := Int.eq_ofNat_of_zero_le hz.1
      have HM := Aside0.mk hm
      rw [hm] at hc hz
      have h5 : 0 ≤ (m : Int) := by omega
      have h6 : (m : Int) < 11 := hz.2
      have hm11 : m < 11 := by omega
      have HM11 := Aside0.mk hm11
      obtain ⟨y1, y2⟩ := HA.out.cell hm11
      clear hm hz
      go_wp2
      go_roundg k
      case measure => have := HN.out; omega
      case rel => exact ⟨i + 1, rfl, ⟨by have := HN.out; omega⟩, ⟨by rw [← cutD_step f l i m hlt1 HM.out]; exact HA.out.set HM11.out 0⟩, ⟨HB.out.setCell (Nat.le_refl _) _⟩⟩
theorem only_lit (f : Nat → Int) (ad : Addr) (n c : Nat) (l : List Int) (w : World) (hI : Ints .i64 w (some ad) l) (hl : ∀ z ∈ l, 0 ≤ z ∧ z < 11) (hn : l.length = n) (hn2 : n < 4611686018427387904) (b : Bool) (hb : noneD f l = b) :
    Calls Tryz.prog 132 #[.agg (a11 f), .slice (some ad) n c] w fun e w' => e = .returned (.bool b) ∧ Up w w' := by
  subst hn
  exact only_calls f ad c l w hI hl hn2 b hb
end Go.Proofs.YthneeainigdmhaaGreat.M
