/- sort.SliceStable of places by what they hold: in the words of the other walks. -/
import Derived.Test.YticocjpfhllelaaESort8
import Derived.Test.YticocjpfhllelaaERow
set_option linter.unusedVariables false
set_option linter.unusedSimpArgs false
namespace Go.Proofs.StableSort
open Go.Shelf Go.RowKit Go.Lib Go.Sort
variable {α : Type} [Inhabited α] {enc : α → Value} {W wr : World} {blk off : Nat} {dk : Array α}

theorem SW.heap (h : SW enc W blk off dk wr) {cur : Array Value} {e : TypeId} {fr : Nat × Nat} (hb : W.heap[blk]? = some (.cells cur e fr)) : wr.heap[blk]? = some (.cells (putCells enc off dk cur) e fr) := by
  obtain ⟨n, os, rfl⟩ := h
  have hlt : blk < W.heap.size := (Array.getElem?_eq_some_iff.1 hb).1
  unfold sortWorld
  rw [heap_grow_old _ _ (by rw [size_putRow]; exact hlt)]
  unfold putRow mapBlock Sort.ahead
  rw [Array.getElem?_modify, if_pos rfl]
  simp [hb, onCells]
theorem SW.other (h : SW enc W blk off dk wr) {k : Nat} (hk : k < W.heap.size) (hne : k ≠ blk) : wr.heap[k]? = W.heap[k]? := by
  obtain ⟨n, os, rfl⟩ := h
  unfold sortWorld
  rw [heap_grow_old _ _ (by rw [size_putRow]; exact hk)]
  unfold putRow mapBlock Sort.ahead
  rw [Array.getElem?_modify, if_neg (by omega)]
theorem SW.size (h : SW enc W blk off dk wr) : W.heap.size ≤ wr.heap.size := by
  obtain ⟨n, os, rfl⟩ := h
  unfold sortWorld
  rw [size_grow, size_putRow]
  exact Nat.le_add_right _ _
theorem SW.below (h : SW enc W blk off dk wr) {B : Nat} (hB : B ≤ blk) (hW : B ≤ W.heap.size) : Below B W wr := by
  have h2 := SW.size h
  have h3 := fun k (hk : k < B) => SW.other h (k := k) (by omega) (by omega)
  obtain ⟨n, os, rfl⟩ := h
  exact ⟨rfl, rfl, rfl, h2, h3⟩
theorem SW.of_grow {w : World} {os : Array Obj} (h : SW enc (grow w os) blk off dk wr) (hblk : blk < w.heap.size) : SW enc w blk off dk wr := by
  obtain ⟨n, os', rfl⟩ := h
  exact ⟨n, os ++ os', by unfold sortWorld; rw [ahead_grow, putRow_grow enc (Sort.ahead w n) _ blk off _ hblk, grow_grow]⟩

/-! ### The order of places -/
def leP (X : Int → Int) (a b : Int) : Prop := X a < X b ∨ (X a = X b ∧ a ≤ b)
instance (X : Int → Int) (a b : Int) : Decidable (leP X a b) := by unfold leP; infer_instance
def insP (X : Int → Int) (a : Int) : List Int → List Int
  | [] => [a]
  | b :: t => if leP X a b then a :: b :: t else b :: insP X a t
/-- The places by what they hold; where that is alike, as they stand. -/
def ordP (X : Int → Int) : List Int → List Int
  | [] => []
  | a :: t => insP X a (ordP X t)
theorem insP_perm (X : Int → Int) (a : Int) : ∀ l, (insP X a l).Perm (a :: l)
  | [] => List.Perm.refl _
  | b :: t => by
    unfold insP
    split
    · exact List.Perm.refl _
    · exact ((insP_perm X a t).cons b).trans (List.Perm.swap a b t)
theorem ordP_perm (X : Int → Int) : ∀ l, (ordP X l).Perm l
  | [] => List.Perm.refl _
  | a :: t => (insP_perm X a (ordP X t)).trans ((ordP_perm X t).cons a)
theorem leP_trans {X : Int → Int} {a b c : Int} (h1 : leP X a b) (h2 : leP X b c) : leP X a c := by unfold leP at *; omega
theorem leP_total {X : Int → Int} {a b : Int} (h : ¬ leP X a b) : leP X b a := by unfold leP at *; omega
theorem insP_sorted (X : Int → Int) (a : Int) : ∀ l, l.Pairwise (leP X) → (insP X a l).Pairwise (leP X)
  | [], _ => by simp [insP]
  | b :: t, h => by
    unfold insP
    rw [List.pairwise_cons] at h
    split
    · rename_i hab
      rw [List.pairwise_cons, List.pairwise_cons]
      refine ⟨fun x hx => ?_, h⟩
      rcases List.mem_cons.1 hx with rfl | hx
      · exact hab
      · exact leP_trans hab (h.1 x hx)
    · rename_i hab
      rw [List.pairwise_cons]
      refine ⟨fun x hx => ?_, insP_sorted X a t h.2⟩
      rcases List.mem_cons.1 ((insP_perm X a t).mem_iff.1 hx) with rfl | hx
      · exact leP_total hab
      · exact h.1 x hx
theorem ordP_sorted (X : Int → Int) : ∀ l, (ordP X l).Pairwise (leP X)
  | [] => by simp [ordP]
  | a :: t => insP_sorted X a _ (ordP_sorted X t)
theorem ordP_unique {X : Int → Int} {l l' : List Int} (hp : l'.Perm l) (hs : l'.Pairwise (leP X)) : l' = ordP X l :=
  List.Perm.eq_of_pairwise (le := leP X) (fun a b _ _ h1 h2 => by unfold leP at h1 h2; omega) hs (ordP_sorted X l) (hp.trans (ordP_perm X l).symm)
theorem ordP_short (X : Int → Int) : ∀ l : List Int, l.length ≤ 1 → ordP X l = l
  | [], _ => rfl
  | [_], _ => rfl
  | _ :: _ :: _, h => by simp at h

/-- Places of a row of m + 1. -/
def ltF (m : Nat) (X : Int → Int) (u v : Fin (m + 1)) : Bool := decide (X u < X v)
def totF (m : Nat) (X : Int → Int) (u v : Fin (m + 1)) : Bool := decide (X u < X v ∨ (X u = X v ∧ u.val < v.val))
theorem totF_swo (m : Nat) (X : Int → Int) : SWO (totF m X) := by
  refine ⟨fun x => by simp [totF], fun x y z h1 h2 => ?_, fun x y z h1 h2 => ?_⟩ <;> (simp only [totF, decide_eq_true_eq, decide_eq_false_iff_not] at *; omega)
def encF (m : Nat) (u : Fin (m + 1)) : Value := .int .i64 (u.val : Int)
def placesF (m : Nat) (O : List Int) : Array (Fin (m + 1)) := (O.map (fun o => Fin.ofNat (m + 1) o.toNat)).toArray
def ofF {m : Nat} (d : Array (Fin (m + 1))) : List Int := d.toList.map (fun u => (u.val : Int))
theorem ofF_places {m : Nat} {O : List Int} (h : ∀ o ∈ O, 0 ≤ o ∧ o ≤ m) : ofF (placesF m O) = O := by
  unfold ofF placesF
  rw [List.toList_toArray, List.map_map]
  conv => rhs; rw [← List.map_id O]
  refine List.map_congr_left fun o ho => ?_
  have := h o ho
  simp [Fin.ofNat, Nat.mod_eq_of_lt (show o.toNat < m + 1 by omega)]
  omega
theorem placesF_size {m : Nat} {O : List Int} : (placesF m O).size = O.length := by simp [placesF]
theorem ofF_length {m : Nat} (d : Array (Fin (m + 1))) : (ofF d).length = d.size := by simp [ofF]
theorem ofF_get {m : Nat} (d : Array (Fin (m + 1))) {j : Nat} (hj : j < d.size) : (ofF d)[j]? = some ((d[j]!).val : Int) := by
  unfold ofF
  rw [List.getElem?_map, Array.getElem?_toList, Array.getElem?_eq_getElem hj, getElem!_pos d j hj]
  rfl
theorem places_stab {m : Nat} {O : List Int} (X : Int → Int) (h : ∀ o ∈ O, 0 ≤ o ∧ o ≤ m) (hi : O.Pairwise (· < ·)) : Stab (ltF m X) (totF m X) 0 (placesF m O).size (placesF m O) := by
  intro i j _ hij hj
  have e := ofF_places h
  have h1 := ofF_get (placesF m O) (j := i) (by omega)
  have h2 := ofF_get (placesF m O) hj
  rw [e] at h1 h2
  obtain ⟨li, hi1⟩ := List.getElem?_eq_some_iff.1 h1
  obtain ⟨lj, hj1⟩ := List.getElem?_eq_some_iff.1 h2
  have := (List.pairwise_iff_getElem.1 hi) i j li lj hij
  rw [hi1, hj1] at this
  simp only [ltF, totF]
  congr 1
  apply propext
  omega
theorem sorted_places {m : Nat} {X : Int → Int} {O : List Int} {d' : Array (Fin (m + 1))} (h : ∀ o ∈ O, 0 ≤ o ∧ o ≤ m) (hp : PermIn 0 (placesF m O).size (placesF m O) d') (hs : SortedIn (totF m X) 0 (placesF m O).size d') : ofF d' = ordP X O := by
  have hsz := hp.1
  refine ordP_unique ?_ ?_
  · have h3 := hp.2.2
    have e1 : d'.extract 0 (placesF m O).size = d' := by rw [← hsz]; exact Array.extract_size
    rw [e1, Array.extract_size] at h3
    have h4 := h3.map (fun u => (u.val : Int))
    have e := ofF_places h
    unfold ofF at e
    rw [e] at h4
    exact h4
  · rw [List.pairwise_iff_getElem]
    intro i j hi hj hij
    rw [ofF_length] at hi hj
    have h1 := ofF_get d' hi
    have h2 := ofF_get d' hj
    obtain ⟨li, hi1⟩ := List.getElem?_eq_some_iff.1 h1
    obtain ⟨lj, hj1⟩ := List.getElem?_eq_some_iff.1 h2
    rw [hi1, hj1]
    have := hs i j (Nat.zero_le _) hij (by omega)
    simp only [totF, decide_eq_false_iff_not] at this
    unfold leP
    omega
end Go.Proofs.StableSort
