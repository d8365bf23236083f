/- The walk of sort.SliceStable at a row of ints. -/
import Derived.Test.YticocjpfhllelaaESort6
import Derived.Shelf.GgSortFunc.Slice
import Derived.Shelf.GgSortFunc.Small
import Derived.Deep.QuietTactic
import Derived.Test.YticocjpfhllelaaERow
import Derived.LoopN
set_option linter.unusedVariables false
set_option linter.unusedSimpArgs false
namespace Go.Proofs.Yticocjpfhllelaa.XP
open Go.Shelf Go.RowKit Go.Lib Go.Sort Go.Proofs.StableSort Go.Proofs.YticocjpfhllelaaW.PrintWords Go.Proofs.YticocjpfhllelaaW.PrintLast

noncomputable def siT : TypeInfo := (Try.prog.info? 41).get (by kernel_rfl)
noncomputable def siE : TypeInfo := (Try.prog.info? 3).get (by kernel_rfl)
theorem siK (n : Nat) (h2 : 2 ≤ n) : Lib.swapperK n siE 2 = 5 := by
  have a : siE.hasPointers = false := by kernel_rfl
  have b : siE.bytes = 8 := by kernel_rfl
  have c : (n == 0) = false := by simp; omega
  have d : (n == 1) = false := by simp; omega
  simp [Lib.swapperK, a, b, c, d]
theorem siK_name (n : Nat) : ∃ f, Try.prog.funcs.findIdx? (·.name == "internal/reflectlite" ++ ".Swapper$" ++ toString (swapperK n siE 2)) = some f ∧ (2 ≤ n → f = 52) := by
  by_cases h0 : n = 0
  · subst h0; exact ⟨48, by kernel_rfl, fun h => by omega⟩
  by_cases h1 : n = 1
  · subst h1; exact ⟨49, by kernel_rfl, fun h => by omega⟩
  exact ⟨52, by rw [siK n (by omega)]; kernel_rfl, fun _ => rfl⟩

/-- The world in which stable_func is called: two new blocks. -/
noncomputable def stWorld (p : Option Addr) (n c : Nat) (w : World) : World :=
  (w.alloc (.cells #[.slice p n c] 41)).alloc (.cells #[.pointer (some ⟨Try.prog.globals.size, 41, none⟩), .pointer (some ⟨w.heap.size, 0, none⟩), .int .u64 151] 69)

set_option maxHeartbeats 1000000 in
set_option maxRecDepth 100000 in
theorem slice_stable_of (p : Option Addr) (n c : Nat) (hn : n < 4611686018427387904) (f : Nat) (hf : Try.prog.funcs.findIdx? (·.name == "internal/reflectlite" ++ ".Swapper$" ++ toString (swapperK n siE 2)) = some f) (lf : Fn) (la lb : Array Value) (w : World) (R : World → Prop)
    (hp : Calls Try.prog 42 #[.agg #[.func lf la lb, .func (.func f) #[] (sliceBound Try.prog 3 siE 2 p n c)], .int .i64 n] (stWorld p n c w) fun e w' => e = .returned (.tuple #[]) ∧ R w') :
    Calls Try.prog 29 #[.iface 41 (.slice p n c), .func lf la lb] w fun e w' => e = .returned (.tuple #[]) ∧ R w' := by
  have hi : Try.prog.info? 41 = some siT := by kernel_rfl
  have hd : siT.desc = .slice 3 := by kernel_rfl
  have hpk : Try.prog.packed 41 = false := by kernel_rfl
  have hie : Try.prog.info? 3 = some siE := by kernel_rfl
  have hke : ∀ w, (Extern.Rtype.kind 3).run Try.prog w = .ok 2 w := fun _ => by kernel_rfl
  have hv := run_valueOf_slice (P := Try.prog) 41 3 siT hi hd p n c w
  have hs := fun w => run_swapper_slice (P := Try.prog) 41 3 siT siE hi hd hie 2 hke p n c f hf w
  have hl := fun a w ha => run_valueLen_slice (P := Try.prog) 41 3 siT hi hd hpk a p n c w ha
  unfold sliceBound stWorld at hp
  generalize (if swapperK n siE 2 ≤ 2 then (#[] : Array Value) else #[.slice p n c, typeHandle Try.prog 3]) = B at hs hp
  simp only [typeHandle] at hv hl
  generalize hG : Try.prog.globals.size = G at hv hl hp
  go_enter Try.func29, Try.ntmps29
  go_wp2
  rw [run_callFunc_extern Try.func40 (by kernel_rfl) (by kernel_rfl) (by kernel_rfl) (e := fun args => Extern.ReflectliteValue.unpack (args.getD 0 (.tuple #[]))) (by kernel_rfl),
    show Sem.run Try.prog ((fun args : Array Value => Extern.ReflectliteValue.unpack (args.getD 0 (.tuple #[]))) #[.iface 41 (.slice p n c)]) w = _ from hv]
  simp only [Result.andThen]
  rw [Oper.upon_value]
  go_wp2
  rw [run_callFunc_extern Try.func41 (by kernel_rfl) (by kernel_rfl) (by kernel_rfl) (e := Extern.ReflectliteSwapper.swapper "internal/reflectlite" (Extern.ReflectliteValue.valueError "Swapper")) (by kernel_rfl), hs]
  simp only [Result.andThen]
  rw [Oper.upon_value]
  go_wp2
  rw [run_callFunc_extern Try.func43 (by kernel_rfl) (by kernel_rfl) (by kernel_rfl) (e := Extern.ReflectliteValue.method (Extern.ReflectliteValue.valueError "reflectlite.Value.Len" 0) Extern.ReflectliteValue.len) (by kernel_rfl),
    hl _ _ (by simp)]
  simp only [Result.andThen]
  rw [Oper.upon_value]
  go_wp2_with (go_at_call 42; refine hp.mono ?_; rintro e w' ⟨rfl, hR⟩)
  go_end0
  exact ⟨rfl, hR⟩
end Go.Proofs.Yticocjpfhllelaa.XP
/-! The walk of Encode's comparison of two places. -/
set_option linter.unusedVariables false
set_option linter.unusedSimpArgs false
namespace Go.Proofs.Yticocjpfhllelaa.XP
open Go.Shelf Go.RowKit Go.Lib Go.Sort Go.Proofs.StableSort Go.Proofs.YticocjpfhllelaaW.PrintWords Go.Proofs.YticocjpfhllelaaW.PrintLast

set_option maxHeartbeats 2000000 in
set_option maxRecDepth 100000 in
theorem less_calls (gx go blk c n cx size : Nat) (ad : Addr) (W : World) (X : Nat → Int) (O : Nat → Nat)
    (hgx : W.cell? ⟨gx, 0, none⟩ = some (.slice (some ad) n cx)) (hgo : W.cell? ⟨go, 0, none⟩ = some (.slice (some ⟨blk, 0, none⟩) size c))
    (hx : ∀ t, t < n → W.cell? (ad.add t) = some (.int .i32 (X t)))
    (hc : ∀ t, t < size → W.cell? ⟨blk, t, none⟩ = some (.int .i64 (O t))) (hO : ∀ t, t < size → O t < n) (i j : Nat) (hi : i < size) (hj : j < size) (hsz : size < 4611686018427387904) (hn : n < 4611686018427387904) :
    Calls Try.prog 30 #[.int .i64 i, .int .i64 j, .pointer (some ⟨gx, 0, none⟩), .pointer (some ⟨go, 0, none⟩)] W fun e w' => e = .returned (.bool (decide (X (O i) < X (O j)))) ∧ ∃ q, w' = W.drewN q := by
  have ci := hc i hi
  have cj := hc j hj
  have oi := hO i hi
  have oj := hO j hj
  have xi := hx (O i) oi
  have xj := hx (O j) oj
  clear hc hO hx
  go_enter Try.func30, Try.ntmps30
  go_wp2
  go_quiet (fail)
  go_wp2
  go_ret
  exact ⟨rfl, nq, rfl⟩
end Go.Proofs.Yticocjpfhllelaa.XP
/-! sort.SliceStable of places by what they hold: in the words of the other walks. -/
set_option linter.unusedVariables false
set_option linter.unusedSimpArgs false
namespace Go.Proofs.StableSort
open Go.Shelf Go.RowKit Go.Lib Go.Sort
variable {α : Type} [Inhabited α] {enc : α → Value} {W wr : World} {blk off : Nat} {dk : Array α}

theorem SW.heap (h : SW enc W blk off dk wr) {cur : Array Value} {e : TypeId} {fr : Nat × Nat} (hb : W.heap[blk]? = some (.cells cur e fr)) : wr.heap[blk]? = some (.cells (putCells enc off dk cur) e fr) := by
  obtain ⟨n, os, rfl⟩ := h
  have hlt : blk < W.heap.size := (Array.getElem?_eq_some_iff.1 hb).1
  unfold sortWorld
  rw [heap_grow_old _ _ (by rw [size_putRow]; exact hlt)]
  unfold putRow mapBlock Sort.ahead
  rw [Array.getElem?_modify, if_pos rfl]
  simp [hb, onCells]
theorem SW.other (h : SW enc W blk off dk wr) {k : Nat} (hk : k < W.heap.size) (hne : k ≠ blk) : wr.heap[k]? = W.heap[k]? := by
  obtain ⟨n, os, rfl⟩ := h
  unfold sortWorld
  rw [heap_grow_old _ _ (by rw [size_putRow]; exact hk)]
  unfold putRow mapBlock Sort.ahead
  rw [Array.getElem?_modify, if_neg (by omega)]
theorem SW.size (h : SW enc W blk off dk wr) : W.heap.size ≤ wr.heap.size := by
  obtain ⟨n, os, rfl⟩ := h
  unfold sortWorld
  rw [size_grow, size_putRow]
  exact Nat.le_add_right _ _
theorem SW.below (h : SW enc W blk off dk wr) {B : Nat} (hB : B ≤ blk) (hW : B ≤ W.heap.size) : Below B W wr := by
  have h2 := SW.size h
  have h3 := fun k (hk : k < B) => SW.other h (k := k) (by omega) (by omega)
  obtain ⟨n, os, rfl⟩ := h
  exact ⟨rfl, rfl, rfl, h2, h3⟩
theorem SW.of_grow {w : World} {os : Array Obj} (h : SW enc (grow w os) blk off dk wr) (hblk : blk < w.heap.size) : SW enc w blk off dk wr := by
  obtain ⟨n, os', rfl⟩ := h
  exact ⟨n, os ++ os', by unfold sortWorld; rw [ahead_grow, putRow_grow enc (Sort.ahead w n) _ blk off _ hblk, grow_grow]⟩

/-! ### The order of places -/
def leP (X : Int → Int) (a b : Int) : Prop := X a < X b ∨ (X a = X b ∧ a ≤ b)
instance (X : Int → Int) (a b : Int) : Decidable (leP X a b) := by unfold leP; infer_instance
def insP (X : Int → Int) (a : Int) : List Int → List Int
  | [] => [a]
  | b :: t => if leP X a b then a :: b :: t else b :: insP X a t
/-- The places by what they hold; where that is alike, as they stand. -/
def ordP (X : Int → Int) : List Int → List Int
  | [] => []
  | a :: t => insP X a (ordP X t)
theorem insP_perm (X : Int → Int) (a : Int) : ∀ l, (insP X a l).Perm (a :: l)
  | [] => List.Perm.refl _
  | b :: t => by
    unfold insP
    split
    · exact List.Perm.refl _
    · exact ((insP_perm X a t).cons b).trans (List.Perm.swap a b t)
theorem ordP_perm (X : Int → Int) : ∀ l, (ordP X l).Perm l
  | [] => List.Perm.refl _
  | a :: t => (insP_perm X a (ordP X t)).trans ((ordP_perm X t).cons a)
theorem leP_trans {X : Int → Int} {a b c : Int} (h1 : leP X a b) (h2 : leP X b c) : leP X a c := by unfold leP at *; omega
theorem leP_total {X : Int → Int} {a b : Int} (h : ¬ leP X a b) : leP X b a := by unfold leP at *; omega
theorem insP_sorted (X : Int → Int) (a : Int) : ∀ l, l.Pairwise (leP X) → (insP X a l).Pairwise (leP X)
  | [], _ => by simp [insP]
  | b :: t, h => by
    unfold insP
    rw [List.pairwise_cons] at h
    split
    · rename_i hab
      rw [List.pairwise_cons, List.pairwise_cons]
      refine ⟨fun x hx => ?_, h⟩
      rcases List.mem_cons.1 hx with rfl | hx
      · exact hab
      · exact leP_trans hab (h.1 x hx)
    · rename_i hab
      rw [List.pairwise_cons]
      refine ⟨fun x hx => ?_, insP_sorted X a t h.2⟩
      rcases List.mem_cons.1 ((insP_perm X a t).mem_iff.1 hx) with rfl | hx
      · exact leP_total hab
      · exact h.1 x hx
theorem ordP_sorted (X : Int → Int) : ∀ l, (ordP X l).Pairwise (leP X)
  | [] => by simp [ordP]
  | a :: t => insP_sorted X a _ (ordP_sorted X t)
theorem ordP_unique {X : Int → Int} {l l' : List Int} (hp : l'.Perm l) (hs : l'.Pairwise (leP X)) : l' = ordP X l :=
  List.Perm.eq_of_pairwise (le := leP X) (fun a b _ _ h1 h2 => by unfold leP at h1 h2; omega) hs (ordP_sorted X l) (hp.trans (ordP_perm X l).symm)
theorem ordP_short (X : Int → Int) : ∀ l : List Int, l.length ≤ 1 → ordP X l = l
  | [], _ => rfl
  | [_], _ => rfl
  | _ :: _ :: _, h => by simp at h

/-- Places of a row of m + 1. -/
def ltF (m : Nat) (X : Int → Int) (u v : Fin (m + 1)) : Bool := decide (X u < X v)
def totF (m : Nat) (X : Int → Int) (u v : Fin (m + 1)) : Bool := decide (X u < X v ∨ (X u = X v ∧ u.val < v.val))
theorem totF_swo (m : Nat) (X : Int → Int) : SWO (totF m X) := by
  refine ⟨fun x => by simp [totF], fun x y z h1 h2 => ?_, fun x y z h1 h2 => ?_⟩ <;> (simp only [totF, decide_eq_true_eq, decide_eq_false_iff_not] at *; omega)
def encF (m : Nat) (u : Fin (m + 1)) : Value := .int .i64 (u.val : Int)
def placesF (m : Nat) (O : List Int) : Array (Fin (m + 1)) := (O.map (fun o => Fin.ofNat (m + 1) o.toNat)).toArray
def ofF {m : Nat} (d : Array (Fin (m + 1))) : List Int := d.toList.map (fun u => (u.val : Int))
theorem ofF_places {m : Nat} {O : List Int} (h : ∀ o ∈ O, 0 ≤ o ∧ o ≤ m) : ofF (placesF m O) = O := by
  unfold ofF placesF
  rw [List.toList_toArray, List.map_map]
  conv => rhs; rw [← List.map_id O]
  refine List.map_congr_left fun o ho => ?_
  have := h o ho
  simp [Fin.ofNat, Nat.mod_eq_of_lt (show o.toNat < m + 1 by omega)]
  omega
theorem placesF_size {m : Nat} {O : List Int} : (placesF m O).size = O.length := by simp [placesF]
theorem ofF_length {m : Nat} (d : Array (Fin (m + 1))) : (ofF d).length = d.size := by simp [ofF]
theorem ofF_get {m : Nat} (d : Array (Fin (m + 1))) {j : Nat} (hj : j < d.size) : (ofF d)[j]? = some ((d[j]!).val : Int) := by
  unfold ofF
  rw [List.getElem?_map, Array.getElem?_toList, Array.getElem?_eq_getElem hj, getElem!_pos d j hj]
  rfl
theorem places_stab {m : Nat} {O : List Int} (X : Int → Int) (h : ∀ o ∈ O, 0 ≤ o ∧ o ≤ m) (hi : O.Pairwise (· < ·)) : Stab (ltF m X) (totF m X) 0 (placesF m O).size (placesF m O) := by
  intro i j _ hij hj
  have e := ofF_places h
  have h1 := ofF_get (placesF m O) (j := i) (by omega)
  have h2 := ofF_get (placesF m O) hj
  rw [e] at h1 h2
  obtain ⟨li, hi1⟩ := List.getElem?_eq_some_iff.1 h1
  obtain ⟨lj, hj1⟩ := List.getElem?_eq_some_iff.1 h2
  have := (List.pairwise_iff_getElem.1 hi) i j li lj hij
  rw [hi1, hj1] at this
  simp only [ltF, totF]
  congr 1
  apply propext
  omega
theorem sorted_places {m : Nat} {X : Int → Int} {O : List Int} {d' : Array (Fin (m + 1))} (h : ∀ o ∈ O, 0 ≤ o ∧ o ≤ m) (hp : PermIn 0 (placesF m O).size (placesF m O) d') (hs : SortedIn (totF m X) 0 (placesF m O).size d') : ofF d' = ordP X O := by
  have hsz := hp.1
  refine ordP_unique ?_ ?_
  · have h3 := hp.2.2
    have e1 : d'.extract 0 (placesF m O).size = d' := by rw [← hsz]; exact Array.extract_size
    rw [e1, Array.extract_size] at h3
    have h4 := h3.map (fun u => (u.val : Int))
    have e := ofF_places h
    unfold ofF at e
    rw [e] at h4
    exact h4
  · rw [List.pairwise_iff_getElem]
    intro i j hi hj hij
    rw [ofF_length] at hi hj
    have h1 := ofF_get d' hi
    have h2 := ofF_get d' hj
    obtain ⟨li, hi1⟩ := List.getElem?_eq_some_iff.1 h1
    obtain ⟨lj, hj1⟩ := List.getElem?_eq_some_iff.1 h2
    rw [hi1, hj1]
    have := hs i j (Nat.zero_le _) hij (by omega)
    simp only [totF, decide_eq_false_iff_not] at this
    unfold leP
    omega
end Go.Proofs.StableSort
/-! sort.SliceStable of places by what they hold: the contract. -/
set_option linter.unusedVariables false
set_option linter.unusedSimpArgs false
namespace Go.Proofs.Yticocjpfhllelaa.XP
open Go.Shelf Go.RowKit Go.Lib Go.Sort Go.Proofs.StableSort Go.Proofs.YticocjpfhllelaaW.PrintWords Go.Proofs.YticocjpfhllelaaW.PrintLast

set_option maxHeartbeats 2000000 in
set_option maxRecDepth 100000 in
theorem ins_none (lf : Fn) (la lb : Array Value) (f : Nat) (sb : Array Value) (a b : Nat) (h : b ≤ a + 1) (ha : a < 4611686018427387904) (w : World) :
    Calls Try.prog 57 #[.agg #[.func lf la lb, .func (.func f) #[] sb], .int .i64 a, .int .i64 b] w fun e w' => e = .returned (.tuple #[]) ∧ w' = w.alloc (.cells #[.func lf la lb, .func (.func f) #[] sb] 75) := by
  go_enter Try.func57, Try.ntmps57
  go_wp2
  refine wp_loop_rounds 1 ?_
  rw [rounds_succ]
  go_wp2
  go_end0
  exact ⟨rfl, rfl⟩

set_option maxHeartbeats 2000000 in
set_option maxRecDepth 100000 in
theorem stable_tiny (lf : Fn) (la lb : Array Value) (f : Nat) (sb : Array Value) (n : Nat) (hn : n ≤ 1) (w : World) :
    Calls Try.prog 42 #[.agg #[.func lf la lb, .func (.func f) #[] sb], .int .i64 n] w fun e w' => e = .returned (.tuple #[]) ∧ ∃ os, w' = grow w os := by
  have hc := fun w1 => ins_none lf la lb f sb 0 n (by omega) (by omega) w1
  go_enter Try.func42, Try.ntmps42
  go_wp2
  refine wp_loop_rounds 1 ?_
  rw [rounds_succ]
  go_wp2_with (go_at_call 57; refine (hc _).mono ?_; rintro e w1 ⟨rfl, rfl⟩)
  refine wp_loop_rounds 1 ?_
  rw [rounds_succ]
  go_wp2
  all_goals first | (exfalso; omega) | (go_end0; exact ⟨rfl, _, by rw [alloc_eq_grow, alloc_eq_grow, grow_grow]⟩)

theorem stWorld_grow (p : Option Addr) (n c : Nat) (w : World) : ∃ os, stWorld p n c w = grow w os := by
  unfold stWorld; rw [alloc_eq_grow, alloc_eq_grow, grow_grow]; exact ⟨_, rfl⟩
theorem below_grow {B : Nat} (w : World) (os : Array Obj) (hB : B ≤ w.heap.size) : Below B w (grow w os) :=
  ⟨rfl, rfl, rfl, by rw [size_grow]; omega, fun k hk => heap_grow_old w os (by omega)⟩

theorem sort_tiny (v : Value) (O : List Int) (base : Nat) (ok : Nat → Prop) (w : World) (hO : Kd.R (Kd.int .i64) 3 w base ok v O) (h1 : O.length ≤ 1) (lf : Fn) (la lb : Array Value) :
    Calls Try.prog 29 #[.iface 41 v, .func lf la lb] w fun e w' => e = .returned (.tuple #[]) ∧ Below w.heap.size w w' := by
  obtain ⟨A, c, rfl⟩ := Kd.R_slice hO
  obtain ⟨f, hf, _⟩ := siK_name O.length
  refine slice_stable_of A O.length c (by omega) f hf lf la lb w _ ?_
  refine (stable_tiny lf la lb f _ O.length h1 _).mono ?_
  rintro e w' ⟨rfl, os, rfl⟩
  obtain ⟨os2, h2⟩ := stWorld_grow A O.length c w
  rw [h2, grow_grow]
  exact ⟨rfl, below_grow w _ (Nat.le_refl _)⟩

/-- What the row holds behind it. -/
theorem row_sorted {w W : World} {base g cap m : Nat} {ok : Nat → Prop} {cur : Array Value} {O : List Int} {d' : Array (Fin (m + 1))} (h : RowAt w base 3 ok g O.length cap cur (encs (Value.int .i64) O)) (hW : SW (encF m) w g 0 d' W) (hd : d'.size = O.length) :
    Kd.R (Kd.int .i64) 3 W base ok (.slice (some ⟨g, 0, none⟩) O.length cap) (ofF d') := by
  have hl : (ofF d').length = O.length := by rw [ofF_length, hd]
  have hh := SW.heap hW h.heap
  have hle := h.le
  have hsz := h.size
  refine Kd.R_of_own ⟨by simp [encs], .inr ⟨g, cap, putCells (encF m) 0 d' cur, by rw [hl], h.base_le, hh, by omega, h.max, by unfold putCells; rw [Array.size_mapIdx]; omega, ?_⟩⟩ (fun k hk => ?_)
  · rw [Nat.mul_one, hl]
    apply List.ext_getElem?
    intro j
    by_cases hj : j < O.length
    · rw [List.getElem?_take_of_lt hj, Array.getElem?_toList]
      unfold putCells
      rw [Array.getElem?_mapIdx, Array.getElem?_eq_getElem (by omega), Option.map_some, if_pos (by omega)]
      unfold encs
      rw [List.getElem?_map, ofF_get d' (by omega)]
      rfl
    · rw [List.getElem?_eq_none (by rw [List.length_take]; omega), List.getElem?_eq_none (by simp [encs]; omega)]
  · have : g = k := by simpa [Value.ownBlock] using hk
    exact this ▸ h.ok_g

theorem sort_calls_of (hsym : ∀ (m : Nat) (lt tot : Fin (m + 1) → Fin (m + 1) → Bool) (_ : SWO tot) (g : Nat) (lb : Array Value) (sf : Nat) (sb : Array Value) (blk off size : Nat)
      (_ : ∀ args w, (callFunc g args).run Try.prog w = .ok (.enter g args) w) (_ : SwapSwaps Try.prog sf sb (encF m) blk off size) (_ : size < 4611686018427387904) (f a mid b : Nat) (d : Array (Fin (m + 1))) (w : World),
      b - a ≤ f → LessReads Try.prog g lb (encF m) lt blk off size w → Holds (encF m) w blk off d → blk < w.heap.size → a < mid → mid < b → b ≤ d.size → d.size = size → SortedIn tot a mid d → SortedIn tot mid b d → Pre lt tot a mid b d →
      Calls Try.prog 58 #[.agg #[.func (.func g) #[] lb, .func (.func sf) #[] sb], .int .i64 a, .int .i64 mid, .int .i64 b] w fun e w' =>
        e = .returned (.tuple #[]) ∧ ∃ d', PermIn a b d d' ∧ SortedIn tot a b d' ∧ SW (encF m) w blk off d' w')
    (w0 w : World) (A0 : Option Addr) (c0 : Nat) (l0 : List Int) (gx go : Nat) (v : Value) (O : List Int) (ok : Nat → Prop)
    (hx : Kd.C (Kd.int .i32) w0 A0 l0.length l0) (hB : Below w0.heap.size w0 w) (hO : Kd.R (Kd.int .i64) 3 w w0.heap.size ok v O)
    (hgx : w.cell? ⟨gx, 0, none⟩ = some (.slice A0 l0.length c0)) (hgo : w.cell? ⟨go, 0, none⟩ = some v) (hx1 : some gx ≠ v.ownBlock) (ho1 : some go ≠ v.ownBlock)
    (hin : ∀ o ∈ O, 0 ≤ o ∧ o < l0.length) (hinc : O.Pairwise (· < ·)) (hlen : l0.length < 1152921504606846976) (hlo : O.length ≤ l0.length) :
    Calls Try.prog 29 #[.iface 41 v, .func (.func 30) #[] #[.pointer (some ⟨gx, 0, none⟩), .pointer (some ⟨go, 0, none⟩)]] w fun e w' =>
      e = .returned (.tuple #[]) ∧ Kd.R (Kd.int .i64) 3 w' w0.heap.size ok v (ordP (rd l0) O) ∧ Below w0.heap.size w0 w' ∧ Kept w w' (fun k => some k = v.ownBlock) := by
  by_cases h1 : O.length ≤ 1
  · refine (sort_tiny v O w0.heap.size ok w hO h1 _ _ _).mono ?_
    rintro e w' ⟨rfl, hb⟩
    refine ⟨rfl, ?_, below_step hB hb, Kept.of_below hb _⟩
    rw [ordP_short (rd l0) O h1]
    exact Kd.R_below hO hb
  obtain ⟨m, hm⟩ : ∃ m, l0.length = m + 1 := ⟨l0.length - 1, by omega⟩
  obtain ⟨g, cap, cur, rfl, hr⟩ := row_at hO (by omega)
  have hin' : ∀ o ∈ O, 0 ≤ o ∧ o ≤ m := fun o ho => by have := hin o ho; omega
  have hdS : (placesF m O).size = O.length := placesF_size
  have hE := ofF_places hin'
  have hgw : g < w.heap.size := blk_lt hr.heap
  have hxg : gx ≠ g := by simpa [Value.ownBlock] using hx1
  have hog : go ≠ g := by simpa [Value.ownBlock] using ho1
  obtain ⟨_, _, hxc⟩ := Kd.reads_of_C (d := (0 : Int)) hx
  obtain ⟨ad, rfl, hxd⟩ := hxc (by omega)
  clear hxc
  have hH : Holds (encF m) w g 0 (placesF m O) := fun j hj => by
    refine ⟨?_, blk_frozen hr.heap _⟩
    rw [Nat.zero_add]
    refine hr.cell j _ ?_
    unfold encs
    have h2 := ofF_get (placesF m O) hj
    rw [hE] at h2
    rw [List.getElem?_map, h2]
    rfl
  obtain ⟨os0, hW0⟩ := stWorld_grow (some ⟨g, 0, none⟩) O.length cap w
  have hless : LessReads Try.prog 30 #[.pointer (some ⟨gx, 0, none⟩), .pointer (some ⟨go, 0, none⟩)] (encF m) (ltF m (rd l0)) g 0 O.length w := by
    intro q os dk hs i j hi hj
    have hV : SW (encF m) w g 0 dk (sortWorld (encF m) w g 0 q dk os) := ⟨q, os, rfl⟩
    generalize hWq : sortWorld (encF m) w g 0 q dk os = Wq at hV ⊢
    have ce : ∀ b k u, w.cell? ⟨b, k, none⟩ = some u → b ≠ g → Wq.cell? ⟨b, k, none⟩ = some u := fun b k u h hne => SW.cell hV b k u (World.block_lt_of_cell? w _ h) hne h
    have hc2 : ∀ t, t < O.length → Wq.cell? ⟨g, t, none⟩ = some (.int .i64 (((dk[t]!).val : Nat) : Int)) := fun t ht => by
      have := row_sorted hr hV hs
      obtain ⟨_, _, hrc⟩ := Kd.reads_of_C (d := (0 : Int)) (Kd.R_reads' this).2.2
      have hL : (ofF dk).length = O.length := (ofF_length dk).trans hs
      obtain ⟨ad2, had, hcc⟩ := hrc (by omega)
      have had' : ad2 = ⟨g, 0, none⟩ := by simpa using had.symm
      subst had'
      have h3 := hcc t (by omega)
      rw [add_plain] at h3
      rw [h3]
      have := ofF_get dk (j := t) (by omega)
      rw [List.getD_eq_getElem?_getD, this]
      rfl
    refine less_calls gx go g cap l0.length c0 O.length ad Wq (fun t => rd l0 t) (fun t => (dk[t]!).val) (ce gx 0 _ hgx hxg) (ce go 0 _ hgo hog) (fun t ht => ?_) hc2 (fun t ht => by have := (dk[t]!).isLt; omega) i j hi hj (by omega) (by omega)
    have h4 := hxd t ht
    have h5 := World.block_lt_of_cell? w0 _ h4
    have h6 : Wq.heap[(ad.add t).block]? = w0.heap[(ad.add t).block]? := (SW.other hV (Nat.lt_of_lt_of_le h5 hB.size) (by have := hr.base_le; omega)).trans (hB.block _ h5)
    have h7 : Wq.cell? (ad.add t) = w0.cell? (ad.add t) := by simp only [World.cell?, h6]
    rw [h7, h4]
    simp [rd]
  refine slice_stable_of (some ⟨g, 0, none⟩) O.length cap (by omega) 52 (by rw [siK _ (by omega)]; kernel_rfl) (.func 30) #[] _ w _ ?_
  have hB2 : sliceBound Try.prog 3 siE 2 (some ⟨g, 0, none⟩) O.length cap = #[.slice (some ⟨g, 0, none⟩) O.length cap, typeHandle Try.prog 3] := by
    unfold sliceBound; rw [if_neg (swapperK_gt _ _ _ (by omega))]
  rw [hB2, hW0]
  have eg : ∀ args w, (callFunc 30 args).run Try.prog w = .ok (.enter 30 args) w := enters_of Try.func30 (by kernel_rfl) rfl
  have hsw : SwapSwaps Try.prog 52 #[.slice (some ⟨g, 0, none⟩) O.length cap, typeHandle Try.prog 3] (encF m) g 0 O.length :=
    swapSwaps_of_literal true 52 (fun args W => run_callFunc_extern Try.func52 (by kernel_rfl) (by kernel_rfl) (by kernel_rfl) (e := Extern.ReflectliteSwapper.swap true) (by kernel_rfl) args W) 3 siE (by kernel_rfl) (by kernel_rfl) (fun _ => by kernel_rfl) (encF m) (fun _ => rfl) g 0 O.length cap
  rw [← hdS] at hless hsw
  have hp := stable_of (encF m) (ltF m (rd l0)) (totF m (rd l0)) (totF_swo m (rd l0)) 30 #[.pointer (some ⟨gx, 0, none⟩), .pointer (some ⟨go, 0, none⟩)] 52 _ g 0 (placesF m O) (grow w os0) eg (hless.grow hgw os0) hsw
    (holds_grow _ w _ g 0 _ hgw hH) (by rw [size_grow]; omega) (by omega)
    (fun a mid b d1 w1 h1 h2 h3 h4 h5 h6 h7 h8 h9 h10 => hsym m (ltF m (rd l0)) (totF m (rd l0)) (totF_swo m (rd l0)) 30 _ 52 _ g 0 _ eg hsw (by omega) (b - a) a mid b d1 w1 (Nat.le_refl _) h1 h2 h3 h4 h5 h6 h7 h8 h9 h10)
    (places_stab (rd l0) hin' hinc)
  rw [hdS] at hp
  refine hp.mono ?_
  rintro e w' ⟨rfl, d', hpm, hso, hV⟩
  have hV := SW.of_grow hV hgw
  have hsz := hpm.1.trans hdS
  rw [← hdS] at hpm hso
  have hfin := row_sorted hr hV hsz
  rw [sorted_places hin' hpm hso] at hfin
  refine ⟨rfl, hfin, hB.trans (SW.below hV hr.base_le hB.size), SW.size hV, fun i hi hne => SW.other hV hi (fun he => hne (by rw [he]; rfl))⟩
end Go.Proofs.Yticocjpfhllelaa.XP
