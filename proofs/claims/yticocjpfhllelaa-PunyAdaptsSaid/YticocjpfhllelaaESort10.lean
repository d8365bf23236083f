/- sort.SliceStable of places by what they hold: the contract. -/
import Derived.Test.YticocjpfhllelaaESort9
import Derived.LoopN
set_option linter.unusedVariables false
set_option linter.unusedSimpArgs false
namespace Go.Proofs.Yticocjpfhllelaa.XP
open Go.Shelf Go.RowKit Go.Lib Go.Sort Go.Proofs.StableSort Go.Proofs.YticocjpfhllelaaW.PrintWords Go.Proofs.YticocjpfhllelaaW.PrintLast

set_option maxHeartbeats 2000000 in
set_option maxRecDepth 100000 in
theorem ins_none (lf : Fn) (la lb : Array Value) (f : Nat) (sb : Array Value) (a b : Nat) (h : b ≤ a + 1) (ha : a < 4611686018427387904) (w : World) :
    Calls Try.prog 57 #[.agg #[.func lf la lb, .func (.func f) #[] sb], .int .i64 a, .int .i64 b] w fun e w' => e = .returned (.tuple #[]) ∧ w' = w.alloc (.cells #[.func lf la lb, .func (.func f) #[] sb] 75) := by
  go_enter Try.func57, Try.ntmps57
  go_wp2
  refine wp_loop_rounds 1 ?_
  rw [rounds_succ]
  go_wp2
  go_end0
  exact ⟨rfl, rfl⟩

set_option maxHeartbeats 2000000 in
set_option maxRecDepth 100000 in
theorem stable_tiny (lf : Fn) (la lb : Array Value) (f : Nat) (sb : Array Value) (n : Nat) (hn : n ≤ 1) (w : World) :
    Calls Try.prog 42 #[.agg #[.func lf la lb, .func (.func f) #[] sb], .int .i64 n] w fun e w' => e = .returned (.tuple #[]) ∧ ∃ os, w' = grow w os := by
  have hc := fun w1 => ins_none lf la lb f sb 0 n (by omega) (by omega) w1
  go_enter Try.func42, Try.ntmps42
  go_wp2
  refine wp_loop_rounds 1 ?_
  rw [rounds_succ]
  go_wp2_with (go_at_call 57; refine (hc _).mono ?_; rintro e w1 ⟨rfl, rfl⟩)
  refine wp_loop_rounds 1 ?_
  rw [rounds_succ]
  go_wp2
  all_goals first | (exfalso; omega) | (go_end0; exact ⟨rfl, _, by rw [alloc_eq_grow, alloc_eq_grow, grow_grow]⟩)

theorem stWorld_grow (p : Option Addr) (n c : Nat) (w : World) : ∃ os, stWorld p n c w = grow w os := by
  unfold stWorld; rw [alloc_eq_grow, alloc_eq_grow, grow_grow]; exact ⟨_, rfl⟩
theorem below_grow {B : Nat} (w : World) (os : Array Obj) (hB : B ≤ w.heap.size) : Below B w (grow w os) :=
  ⟨rfl, rfl, rfl, by rw [size_grow]; omega, fun k hk => heap_grow_old w os (by omega)⟩

theorem sort_tiny (v : Value) (O : List Int) (base : Nat) (ok : Nat → Prop) (w : World) (hO : Kd.R (Kd.int .i64) 3 w base ok v O) (h1 : O.length ≤ 1) (lf : Fn) (la lb : Array Value) :
    Calls Try.prog 29 #[.iface 41 v, .func lf la lb] w fun e w' => e = .returned (.tuple #[]) ∧ Below w.heap.size w w' := by
  obtain ⟨A, c, rfl⟩ := Kd.R_slice hO
  obtain ⟨f, hf, _⟩ := siK_name O.length
  refine slice_stable_of A O.length c (by omega) f hf lf la lb w _ ?_
  refine (stable_tiny lf la lb f _ O.length h1 _).mono ?_
  rintro e w' ⟨rfl, os, rfl⟩
  obtain ⟨os2, h2⟩ := stWorld_grow A O.length c w
  rw [h2, grow_grow]
  exact ⟨rfl, below_grow w _ (Nat.le_refl _)⟩

/-- What the row holds behind it. -/
theorem row_sorted {w W : World} {base g cap m : Nat} {ok : Nat → Prop} {cur : Array Value} {O : List Int} {d' : Array (Fin (m + 1))} (h : RowAt w base 3 ok g O.length cap cur (encs (Value.int .i64) O)) (hW : SW (encF m) w g 0 d' W) (hd : d'.size = O.length) :
    Kd.R (Kd.int .i64) 3 W base ok (.slice (some ⟨g, 0, none⟩) O.length cap) (ofF d') := by
  have hl : (ofF d').length = O.length := by rw [ofF_length, hd]
  have hh := SW.heap hW h.heap
  have hle := h.le
  have hsz := h.size
  refine Kd.R_of_own ⟨by simp [encs], .inr ⟨g, cap, putCells (encF m) 0 d' cur, by rw [hl], h.base_le, hh, by omega, h.max, by unfold putCells; rw [Array.size_mapIdx]; omega, ?_⟩⟩ (fun k hk => ?_)
  · rw [Nat.mul_one, hl]
    apply List.ext_getElem?
    intro j
    by_cases hj : j < O.length
    · rw [List.getElem?_take_of_lt hj, Array.getElem?_toList]
      unfold putCells
      rw [Array.getElem?_mapIdx, Array.getElem?_eq_getElem (by omega), Option.map_some, if_pos (by omega)]
      unfold encs
      rw [List.getElem?_map, ofF_get d' (by omega)]
      rfl
    · rw [List.getElem?_eq_none (by rw [List.length_take]; omega), List.getElem?_eq_none (by simp [encs]; omega)]
  · have : g = k := by simpa [Value.ownBlock] using hk
    exact this ▸ h.ok_g

theorem sort_calls_of (hsym : ∀ (m : Nat) (lt tot : Fin (m + 1) → Fin (m + 1) → Bool) (_ : SWO tot) (g : Nat) (lb : Array Value) (sf : Nat) (sb : Array Value) (blk off size : Nat)
      (_ : ∀ args w, (callFunc g args).run Try.prog w = .ok (.enter g args) w) (_ : SwapSwaps Try.prog sf sb (encF m) blk off size) (_ : size < 4611686018427387904) (f a mid b : Nat) (d : Array (Fin (m + 1))) (w : World),
      b - a ≤ f → LessReads Try.prog g lb (encF m) lt blk off size w → Holds (encF m) w blk off d → blk < w.heap.size → a < mid → mid < b → b ≤ d.size → d.size = size → SortedIn tot a mid d → SortedIn tot mid b d → Pre lt tot a mid b d →
      Calls Try.prog 58 #[.agg #[.func (.func g) #[] lb, .func (.func sf) #[] sb], .int .i64 a, .int .i64 mid, .int .i64 b] w fun e w' =>
        e = .returned (.tuple #[]) ∧ ∃ d', PermIn a b d d' ∧ SortedIn tot a b d' ∧ SW (encF m) w blk off d' w')
    (w0 w : World) (A0 : Option Addr) (c0 : Nat) (l0 : List Int) (gx go : Nat) (v : Value) (O : List Int) (ok : Nat → Prop)
    (hx : Kd.C (Kd.int .i32) w0 A0 l0.length l0) (hB : Below w0.heap.size w0 w) (hO : Kd.R (Kd.int .i64) 3 w w0.heap.size ok v O)
    (hgx : w.cell? ⟨gx, 0, none⟩ = some (.slice A0 l0.length c0)) (hgo : w.cell? ⟨go, 0, none⟩ = some v) (hx1 : some gx ≠ v.ownBlock) (ho1 : some go ≠ v.ownBlock)
    (hin : ∀ o ∈ O, 0 ≤ o ∧ o < l0.length) (hinc : O.Pairwise (· < ·)) (hlen : l0.length < 1152921504606846976) (hlo : O.length ≤ l0.length) :
    Calls Try.prog 29 #[.iface 41 v, .func (.func 30) #[] #[.pointer (some ⟨gx, 0, none⟩), .pointer (some ⟨go, 0, none⟩)]] w fun e w' =>
      e = .returned (.tuple #[]) ∧ Kd.R (Kd.int .i64) 3 w' w0.heap.size ok v (ordP (rd l0) O) ∧ Below w0.heap.size w0 w' ∧ Kept w w' (fun k => some k = v.ownBlock) := by
  by_cases h1 : O.length ≤ 1
  · refine (sort_tiny v O w0.heap.size ok w hO h1 _ _ _).mono ?_
    rintro e w' ⟨rfl, hb⟩
    refine ⟨rfl, ?_, below_step hB hb, Kept.of_below hb _⟩
    rw [ordP_short (rd l0) O h1]
    exact Kd.R_below hO hb
  obtain ⟨m, hm⟩ : ∃ m, l0.length = m + 1 := ⟨l0.length - 1, by omega⟩
  obtain ⟨g, cap, cur, rfl, hr⟩ := row_at hO (by omega)
  have hin' : ∀ o ∈ O, 0 ≤ o ∧ o ≤ m := fun o ho => by have := hin o ho; omega
  have hdS : (placesF m O).size = O.length := placesF_size
  have hE := ofF_places hin'
  have hgw : g < w.heap.size := blk_lt hr.heap
  have hxg : gx ≠ g := by simpa [Value.ownBlock] using hx1
  have hog : go ≠ g := by simpa [Value.ownBlock] using ho1
  obtain ⟨_, _, hxc⟩ := Kd.reads_of_C (d := (0 : Int)) hx
  obtain ⟨ad, rfl, hxd⟩ := hxc (by omega)
  clear hxc
  have hH : Holds (encF m) w g 0 (placesF m O) := fun j hj => by
    refine ⟨?_, blk_frozen hr.heap _⟩
    rw [Nat.zero_add]
    refine hr.cell j _ ?_
    unfold encs
    have h2 := ofF_get (placesF m O) hj
    rw [hE] at h2
    rw [List.getElem?_map, h2]
    rfl
  obtain ⟨os0, hW0⟩ := stWorld_grow (some ⟨g, 0, none⟩) O.length cap w
  have hless : LessReads Try.prog 30 #[.pointer (some ⟨gx, 0, none⟩), .pointer (some ⟨go, 0, none⟩)] (encF m) (ltF m (rd l0)) g 0 O.length w := by
    intro q os dk hs i j hi hj
    have hV : SW (encF m) w g 0 dk (sortWorld (encF m) w g 0 q dk os) := ⟨q, os, rfl⟩
    generalize hWq : sortWorld (encF m) w g 0 q dk os = Wq at hV ⊢
    have ce : ∀ b k u, w.cell? ⟨b, k, none⟩ = some u → b ≠ g → Wq.cell? ⟨b, k, none⟩ = some u := fun b k u h hne => SW.cell hV b k u (World.block_lt_of_cell? w _ h) hne h
    have hc2 : ∀ t, t < O.length → Wq.cell? ⟨g, t, none⟩ = some (.int .i64 (((dk[t]!).val : Nat) : Int)) := fun t ht => by
      have := row_sorted hr hV hs
      obtain ⟨_, _, hrc⟩ := Kd.reads_of_C (d := (0 : Int)) (Kd.R_reads' this).2.2
      have hL : (ofF dk).length = O.length := (ofF_length dk).trans hs
      obtain ⟨ad2, had, hcc⟩ := hrc (by omega)
      have had' : ad2 = ⟨g, 0, none⟩ := by simpa using had.symm
      subst had'
      have h3 := hcc t (by omega)
      rw [add_plain] at h3
      rw [h3]
      have := ofF_get dk (j := t) (by omega)
      rw [List.getD_eq_getElem?_getD, this]
      rfl
    refine less_calls gx go g cap l0.length c0 O.length ad Wq (fun t => rd l0 t) (fun t => (dk[t]!).val) (ce gx 0 _ hgx hxg) (ce go 0 _ hgo hog) (fun t ht => ?_) hc2 (fun t ht => by have := (dk[t]!).isLt; omega) i j hi hj (by omega) (by omega)
    have h4 := hxd t ht
    have h5 := World.block_lt_of_cell? w0 _ h4
    have h6 : Wq.heap[(ad.add t).block]? = w0.heap[(ad.add t).block]? := (SW.other hV (Nat.lt_of_lt_of_le h5 hB.size) (by have := hr.base_le; omega)).trans (hB.block _ h5)
    have h7 : Wq.cell? (ad.add t) = w0.cell? (ad.add t) := by simp only [World.cell?, h6]
    rw [h7, h4]
    simp [rd]
  refine slice_stable_of (some ⟨g, 0, none⟩) O.length cap (by omega) 52 (by rw [siK _ (by omega)]; kernel_rfl) (.func 30) #[] _ w _ ?_
  have hB2 : sliceBound Try.prog 3 siE 2 (some ⟨g, 0, none⟩) O.length cap = #[.slice (some ⟨g, 0, none⟩) O.length cap, typeHandle Try.prog 3] := by
    unfold sliceBound; rw [if_neg (swapperK_gt _ _ _ (by omega))]
  rw [hB2, hW0]
  have eg : ∀ args w, (callFunc 30 args).run Try.prog w = .ok (.enter 30 args) w := enters_of Try.func30 (by kernel_rfl) rfl
  have hsw : SwapSwaps Try.prog 52 #[.slice (some ⟨g, 0, none⟩) O.length cap, typeHandle Try.prog 3] (encF m) g 0 O.length :=
    swapSwaps_of_literal true 52 (fun args W => run_callFunc_extern Try.func52 (by kernel_rfl) (by kernel_rfl) (by kernel_rfl) (e := Extern.ReflectliteSwapper.swap true) (by kernel_rfl) args W) 3 siE (by kernel_rfl) (by kernel_rfl) (fun _ => by kernel_rfl) (encF m) (fun _ => rfl) g 0 O.length cap
  rw [← hdS] at hless hsw
  have hp := stable_of (encF m) (ltF m (rd l0)) (totF m (rd l0)) (totF_swo m (rd l0)) 30 #[.pointer (some ⟨gx, 0, none⟩), .pointer (some ⟨go, 0, none⟩)] 52 _ g 0 (placesF m O) (grow w os0) eg (hless.grow hgw os0) hsw
    (holds_grow _ w _ g 0 _ hgw hH) (by rw [size_grow]; omega) (by omega)
    (fun a mid b d1 w1 h1 h2 h3 h4 h5 h6 h7 h8 h9 h10 => hsym m (ltF m (rd l0)) (totF m (rd l0)) (totF_swo m (rd l0)) 30 _ 52 _ g 0 _ eg hsw (by omega) (b - a) a mid b d1 w1 (Nat.le_refl _) h1 h2 h3 h4 h5 h6 h7 h8 h9 h10)
    (places_stab (rd l0) hin' hinc)
  rw [hdS] at hp
  refine hp.mono ?_
  rintro e w' ⟨rfl, d', hpm, hso, hV⟩
  have hV := SW.of_grow hV hgw
  have hsz := hpm.1.trans hdS
  rw [← hdS] at hpm hso
  have hfin := row_sorted hr hV hsz
  rw [sorted_places hin' hpm hso] at hfin
  refine ⟨rfl, hfin, hB.trans (SW.below hV hr.base_le hB.size), SW.size hV, fun i hi hne => SW.other hV hi (fun he => hne (by rw [he]; rfl))⟩
end Go.Proofs.Yticocjpfhllelaa.XP
